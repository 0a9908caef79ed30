/-
  Parts of the proof: XU4M
-/
import Derived.Test.YtclgllmipcbagaaGreatDoorBk22
import Derived.Test.YtclgllmipcbagaaGreatDoorBk12
namespace Go.Proofs.YtclgllmipcbagaaGreatDoor
open Go.RowKit
set_option linter.unusedVariables false
set_option linter.unusedSimpArgs false
set_option maxRecDepth 100000
set_option maxHeartbeats 16000000
theorem Blk.q8 {w:World}{b:Nat}{T:TypeId}{v0 v1 v2 v3 v4 v5 v6 v7:Value}(h:Blk w b #[v0,v1,v2,v3,v4,v5,v6,v7] T):w.cell? ⟨b,0,none⟩=some v0∧w.cell? ⟨b,1,none⟩=some v1∧w.cell? ⟨b,2,none⟩=some v2∧w.cell? ⟨b,3,none⟩=some v3∧w.cell? ⟨b,4,none⟩=some v4∧w.cell? ⟨b,5,none⟩=some v5∧w.cell? ⟨b,6,none⟩=some v6∧w.cell? ⟨b,7,none⟩=some v7:=
 ⟨h.cell 0,h.cell 1,h.cell 2,h.cell 3,h.cell 4,h.cell 5,h.cell 6,h.cell 7⟩
theorem Blk.z8 {w:World}{b:Nat}{T:TypeId}{cs:Array Value}(h:Blk w b cs T):w.frozen? ⟨b,0,none⟩=false∧w.frozen? ⟨b,1,none⟩=false∧w.frozen? ⟨b,2,none⟩=false∧w.frozen? ⟨b,3,none⟩=false∧w.frozen? ⟨b,4,none⟩=false∧w.frozen? ⟨b,5,none⟩=false∧w.frozen? ⟨b,6,none⟩=false∧w.frozen? ⟨b,7,none⟩=false:=
 ⟨h.frozen 0,h.frozen 1,h.frozen 2,h.frozen 3,h.frozen 4,h.frozen 5,h.frozen 6,h.frozen 7⟩
theorem s_guessed (t:List UInt8)(w:World)(hE:EnvS w)(hl:t.length≤4096):Calls Tryz.prog 70 #[.string (str t)] w (RetCmd (guessP t) w):=by
 obtain⟨Z,HZ⟩:∃Z,Hid (Z=guessP t):=⟨_,rfl⟩;rw[← HZ.out];have HE:=hid hE;have HLT:=hid hl;clear hE;have hmf:∀(fn:Fn) (first cap:Array Value) (w:World),(Instr.makeFunc fn first cap).run Tryz.prog w= .ok (.func fn first cap) w:=fun _ _ _ _=>rfl;go_enter Tryz.func70,Tryz.ntmps70;go_upto_region 1 with fail;have HR:=hid (Blk.new w #[.int .i64 0,.string ⟨#[]⟩,.string ⟨#[]⟩,.string ⟨#[]⟩,.int .i64 0,.int .i64 0,.slice none 0 0,.slice none 0 0] 31);have HB0:Hid (Below w.heap.size w (w.alloc (.cells #[.int .i64 0,.string ⟨#[]⟩,.string ⟨#[]⟩,.string ⟨#[]⟩,.int .i64 0,.int .i64 0,.slice none 0 0,.slice none 0 0] 31))):=by show Below _ _ _;go_grown
 generalize w.alloc (.cells #[.int .i64 0,.string ⟨#[]⟩,.string ⟨#[]⟩,.string ⟨#[]⟩,.int .i64 0,.int .i64 0,.slice none 0 0,.slice none 0 0] 31)=W0 at*
 obtain⟨m,hm⟩:=(HE.out.below HB0.out).mx;have HSP:=hid (c_Split t m W0 (by omega) hm);have HPL:=hid (parts32_ne t);clear hm;generalize hP:parts32 t=P at*
 have HP:=hid hP;clear hP;go_wp2_with fail;refine HSP.out.mono ?_;rintro e w1 ⟨rfl,hw1⟩;have hB1:Below W0.heap.size W0 w1:=by rw[hw1];go_grown
 have HST:Hid (StsR w1 (.slice (some ⟨W0.heap.size,0,none⟩) P.length P.length) P):=by
  refine⟨_,_,rfl,Nat.le_refl _,?_,.inr ⟨W0.heap.size,0,rfl,by rw[hw1];simp,fun i hi=> ?_⟩⟩
  ·have:=parts_len t
   have h2:=List.count_le_length (l:=t) (a:=32);rw[HP.out]at this;omega
  ·rw[hw1,Nat.zero_add,(Blk.new W0 _ _).cell i,List.getElem?_toArray]
 have HB1:=hid (up HB0.out hB1);have HR1:=hid (HR.out.below hB1);clear hB1 hw1 HSP HR HB0;generalize W0.heap.size=Sb at*
 dsimp only;go_upto_region 2 with fail;have HL:=hid (Blk.new w1 #[.slice (some ⟨Sb,0,none⟩) P.length P.length] 103);have hB2:Below w1.heap.size w1 (w1.alloc (.cells #[.slice (some ⟨Sb,0,none⟩) P.length P.length] 103)):=by go_grown
 have HB2:=hid (up HB1.out hB2);have HST2:=hid (HST.out.below hB2);have HR2:=hid (HR1.out.below hB2);generalize w1.alloc (.cells #[.slice (some ⟨Sb,0,none⟩) P.length P.length] 103)=W2 at*
 generalize w1.heap.size=Lb at*
 clear hB2 HR1 HB1 HST;have hne:0<P.length:=by
  cases P with
  |nil=>exact absurd rfl HPL.out
  |cons x r=>simp
 go_upto_region 3 with (first
  |(go_at_call 54;refine(s_verbs _).mono ?_;rintro e w1 ⟨rfl,hB1⟩;have HB3:=hid (up HB2.out hB1);have HST3:=hid (HST2.out.below hB1);have HR3:=hid (HR2.out.below hB1);have HL3:=hid (HL.out.below hB1);clear hB1)
  |(refine wpList_storeS (o:=⟨none,_,_,_,_,_⟩) _ rfl _ _ 111 rfl (.pointer (some ⟨w1.heap.size,0,none⟩)) rfl (.agg verbsC) rfl _ (run_storeAt_new w1 111 _ verbsC size_verbs rfl one_verbs) ?_))
 have HA4:=hid (Blk.new w1 verbsC 111);have hB4:Below w1.heap.size w1 (w1.alloc (.cells verbsC 111)):=by go_grown
 have HB4:=hid (up HB3.out hB4);have HST4:=hid (HST3.out.below hB4);have HR4:=hid (HR3.out.below hB4);have HL4:=hid (HL3.out.below hB4);generalize w1.alloc (.cells verbsC 111)=W4 at*
 generalize w1.heap.size=A at*
 clear hB4 HB3 HST3 HR3 HL3 HB2 HST2 HR2 HL;obtain⟨b',off',eb,hSb,hP0⟩:=HST4.out.at hne;injection eb with eb
 injection eb with eb1 eb2
 subst eb1 eb2;have hL0:W4.cell? ⟨Lb,0,none⟩=some (.slice (some ⟨Sb,0,none⟩) P.length P.length):=(HL4.out.cell 0).trans rfl;have HIX:=hid (s_verbIx (P[0]?.getD []) A Lb Sb 0 P.length P.length W4 HA4.out hL0 HL4.out.lt (by simpa using hP0) hSb hne);clear hP0 hL0 hSb;generalize hk:kIx (P[0]?.getD [])=k at*
 have HK:=hid hk;clear hk;go_wp2_with fail;refine HIX.out.mono ?_;rintro e w5 ⟨rfl,hB5⟩;have HB5:=hid (up HB4.out hB5);have HST5:=hid (HST4.out.below hB5);have HR5:=hid (HR4.out.below hB5);have HL5:=hid (HL4.out.below hB5);clear hB5 HB4 HST4 HR4 HL4 HA4 HIX;dsimp only;go_upto_region 4 with fail;have HC6:=hid (Blk.new w5 #[.int .i64 k,.string ⟨#[]⟩,.string ⟨#[]⟩,.string ⟨#[]⟩,.int .i64 0,.int .i64 0,.slice none 0 0,.slice none 0 0] 31);have hB6:Below w5.heap.size w5 (w5.alloc (.cells #[.int .i64 k,.string ⟨#[]⟩,.string ⟨#[]⟩,.string ⟨#[]⟩,.int .i64 0,.int .i64 0,.slice none 0 0,.slice none 0 0] 31)):=by go_grown
 have HSC:Hid (Sb<w5.heap.size∧Lb<w5.heap.size∧w.heap.size<w5.heap.size):=⟨(by obtain⟨b',off',eb,h,_⟩:=HST5.out.at hne;injection eb with eb;injection eb with eb1 eb2;subst eb1;exact h),HL5.out.lt,HR5.out.lt⟩;have HB6:=hid (up HB5.out hB6);have HST6:=hid (HST5.out.below hB6);have HR6:=hid (HR5.out.below hB6);have HL6:=hid (HL5.out.below hB6);generalize w5.alloc (.cells #[.int .i64 k,.string ⟨#[]⟩,.string ⟨#[]⟩,.string ⟨#[]⟩,.int .i64 0,.int .i64 0,.slice none 0 0,.slice none 0 0] 31)=W6 at*
 generalize w5.heap.size=Cb at*
 clear hB6 HB5 HST5 HR5 HL5
 have HZ1:Hid (Z=if P.length<2∨k<0 then{cmd0 with kind:=k}else
  (if k=0 then{cmd0 with kind:=k,name:=P[1]?.getD [],g:=grOf (joinB (P.drop 2))}
  else if k=1 then(if 3<P.length then{cmd0 with kind:=k,name:=P[1]?.getD [],on:=P[3]?.getD [],vals:=(P.drop 4).map atoiV}else{cmd0 with kind:=k,name:=P[1]?.getD []})
  else if k=2 then{cmd0 with kind:=k,name:=P[1]?.getD [],vals:=(P.drop 2).map atoiV}
  else if k=3∨k=4 then{cmd0 with kind:=k,name:=P[1]?.getD [],q:=atoiV (P[P.length-1]?.getD [])}
  else if k=5 then(if 3<P.length then{cmd0 with kind:=k,name:=P[1]?.getD [],on:=P[2]?.getD [],other:=P[3]?.getD []}else{cmd0 with kind:=k,name:=P[1]?.getD []})
  else{cmd0 with kind:=k,name:=P[1]?.getD []})):=by
  show _=_
  rw[HZ.out]
  unfold guessP
  rw[HP.out]
  dsimp only
  rw[HK.out]
 have HKL:Hid (k≤8):=by show _≤_;rw[← HK.out];exact kIx_le _
 clear HZ;have lc:=HC6.out.lt;obtain⟨c0,c1,c2,c3,c4,c5,c6,c7⟩:=Blk.q8 HC6.out;have ll:=HL6.out.lt;have l0:=HL6.out.cell 0;have lr:=HR6.out.lt;obtain⟨r0,r1,r2,r3,r4,r5,r6,r7⟩:=Blk.q8 HR6.out;obtain⟨g0,g1,g2,g3,g4,g5,g6,g7⟩:=Blk.z8 HR6.out;simp only[xG,xH,xI]at l0;by_cases h2:P.length<2
 ·have h2I:(P.length:Int)<2:=by omega
  have hz:Hid (Z={cmd0 with kind:=k}):=by show _=_;rw[HZ1.out,if_pos (.inl h2)]
  clear h2 HZ1;go_wp2_with fail;refine bodyPost_ret (results_cellA rfl rfl (load_cmd (blk8 HR6.out _ _ _ _ _ _ _ _))) rfl ?_;rw[hz.out];exact guess_fin (c:={cmd0 with kind:=k}) HR6.out (Nat.le_refl _) HB6.out (EdgesR.nil _) (IntsR.nil _) (fun g e=>e.elim (fun e=>by cases e) (fun e=>by cases e))
 have h2I:¬(P.length:Int)<2:=by omega
 by_cases h3:k<0
 ·have hz:Hid (Z={cmd0 with kind:=k}):=by show _=_;rw[HZ1.out,if_pos (.inr h3)]
  clear h2 HZ1;go_wp2_with fail;refine bodyPost_ret (results_cellA rfl rfl (load_cmd (blk8 HR6.out _ _ _ _ _ _ _ _))) rfl ?_;rw[hz.out];exact guess_fin (c:={cmd0 with kind:=k}) HR6.out (Nat.le_refl _) HB6.out (EdgesR.nil _) (IntsR.nil _) (fun g e=>e.elim (fun e=>by cases e) (fun e=>by cases e))
 obtain⟨kn,hkn⟩:∃kn:Nat,k=(kn:Int):=⟨k.toNat,by omega⟩;have hk9:kn<9:=by have:=HKL.out;omega
 subst hkn;obtain⟨b',off',eb,hSb,hP1⟩:=HST6.out.at (k:=1) (by omega);injection eb with eb
 injection eb with eb1 eb2
 subst eb1 eb2;have n1:(1:Int)<(P.length:Int):=by omega
 have HZ2:=hid (HZ1.out.trans (if_neg (by omega)));have fc1:=HC6.out.frozen 1;clear HZ1;go_upto_region 7 with fail;have hC7:=HC6.out.set 1 (.string (str (P[1]?.getD [])));simp only[xM,xJ,xK]at hC7;have HC7:=hid hC7;have HR7:=hid (HR6.out.other (g:=Cb) (by have:=HSC.out;omega) 1 (.string (str (P[1]?.getD []))));have HL7:=hid (HL6.out.other (g:=Cb) (by have:=HSC.out;omega) 1 (.string (str (P[1]?.getD []))));have HST7:=hid (HST6.out.put (g:=Cb) (fun e=>by injection e with e;have e':Sb=Cb:=e;have:=HSC.out.1;omega) (subX_set W6 Cb 1 (.string (str (P[1]?.getD [])))));have HB7:=hid (HB6.out.setCell (p:=⟨Cb,1,none⟩) (by have:=HSC.out;show _≤Cb;omega) (.string (str (P[1]?.getD []))))
 generalize W6.setCell ⟨Cb,1,none⟩ (.string (str (P[1]?.getD [])))=W7 at*
 generalize hnm:P[1]?.getD []=nm at*
 clear hC7 hnm c0 c1 c2 c3 c4 c5 c6 c7 lc fc1 ll l0 lr r0 r1 r2 r3 r4 r5 r6 r7 g0 g1 g2 g3 g4 g5 g6 g7 HC6 HR6 HL6 HST6 HB6 hSb hP1;obtain⟨c0,c1,c2,c3,c4,c5,c6,c7⟩:=Blk.q8 HC7.out;have lc:=HC7.out.lt;obtain⟨fc0,fc1,fc2,fc3,fc4,fc5,fc6,fc7⟩:=Blk.z8 HC7.out;have ll:=HL7.out.lt;have l0:=HL7.out.cell 0;have lr:=HR7.out.lt;obtain⟨r0,r1,r2,r3,r4,r5,r6,r7⟩:=Blk.q8 HR7.out;obtain⟨g0,g1,g2,g3,g4,g5,g6,g7⟩:=Blk.z8 HR7.out;simp only[xG,xH,xI]at l0;have hcR:w.heap.size≠Cb:=by have:=HSC.out;omega
 have HCR:=hid hcR;have hSb7:Sb<W7.heap.size:=by have:=HSC.out.1;omega
 have HPN:Hid (P.length≤4097):=by
  show _≤_;have h1:=parts_len t;have h2:=List.count_le_length (l:=t) (a:=32);rw[HP.out]at h1;have:=HLT.out;omega
 have HPX:Hid (∀ x∈P,x.length≤281474976710656):=fun x hx=>by
  have:=part_len t x (by rw[HP.out];exact hx);have:=HLT.out;omega
 have hkc:kn=0∨kn=1∨kn=2∨kn=3∨kn=4∨kn=5∨kn=6∨kn=7∨kn=8:=by omega
 clear hk9 hcR;clear h3;rcases hkc with rfl|rfl|rfl|rfl|rfl|rfl|rfl|rfl|rfl
 ·by_cases h22:P.length=2
  ·have hz:Hid (Z={cmd0 with kind:=0,name:=nm,g:=grOf (joinB (P.drop 2))}):=HZ2.out
   clear HZ2;have h2J:(2:Int)≤(P.length:Int):=by omega
   have HJ:=hid (c_JoinS W7 (show StsR W7 (.slice (some ⟨Sb,0,none⟩) 0 0) (P.drop 2)from StsR.zero (by rw[← List.length_eq_zero_iff,List.length_drop];omega)) (by rw[List.length_drop];have:=HPN.out;omega) (by have h1:=joinB_drop 2 P;have h2:=joinB_parts t;rw[HP.out]at h2;rw[h2]at h1;have:=HLT.out;omega));generalize joinB (P.drop 2)=jt at*
   go_wp2_with fail;refine HJ.out.mono ?_;rintro e w8 ⟨rfl,hB8⟩;have HB8:=hid (up HB7.out hB8);have HC8:=hid (HC7.out.below hB8);have HR8:=hid (HR7.out.below hB8);clear c0 c1 c2 c3 c4 c5 c6 c7 lc fc0 fc1 fc2 fc3 fc4 fc5 fc6 fc7 ll l0 lr r0 r1 r2 r3 r4 r5 r6 r7 g0 g1 g2 g3 g4 g5 g6 g7;clear hB8 HC7 HR7 HL7 HST7 HB7 HJ;dsimp only;go_wp2_with fail;refine(n_ReadGraphF jt w8 (HE.out.below HB8.out).env).mono ?_;rintro e w9 ⟨gv,rfl,hgr,hfe,hB9⟩;have HG:Hid (GrR w9 gv (grOf jt)):=hgr;clear hgr;generalize (tableP wGraph 45 true (opened (scanR jt))).2.1=z1 at*
   generalize (tableP wGraph 45 true (opened (scanR jt))).2.2=z2 at*
   obtain⟨ev,rfl,he⟩:=HG.out;obtain⟨ea,ec,rfl,_⟩:=id he;have HEV:=hid he;have HEF:Hid (∀ g,(Value.slice ea (grOf jt).es.length ec).ownBlock=some g→w.heap.size<g):=fun g e=>by
    have:=hfe _ _ g rfl e;have:=HR8.out.lt;omega
   clear hfe;generalize grOf jt=g at*
   have HB9:=hid (up HB8.out hB9);have HC9:=hid (HC8.out.below hB9);have HR9:=hid (HR8.out.below hB9);clear hB9 HC8 HR8 HB8 HG he;obtain⟨c0,c1,c2,c3,c4,c5,c6,c7⟩:=Blk.q8 HC9.out;have lc:=HC9.out.lt;obtain⟨fc0,fc1,fc2,fc3,fc4,fc5,fc6,fc7⟩:=Blk.z8 HC9.out;have lr:=HR9.out.lt;obtain⟨r0,r1,r2,r3,r4,r5,r6,r7⟩:=Blk.q8 HR9.out;obtain⟨g0,g1,g2,g3,g4,g5,g6,g7⟩:=Blk.z8 HR9.out;dsimp only;go_upto_region 21 with fail;have hC10:=((HC9.out.set 5 (.int .i64 g.n)).set 6 (.slice ea g.es.length ec));simp only[xM,xJ,xK]at hC10;have HC10:=hid hC10;have HR10:=hid ((HR9.out.other HCR.out 5 (.int .i64 g.n)).other HCR.out 6 (.slice ea g.es.length ec))
   have HB10:=hid ((HB9.out.setCell (p:=⟨Cb,5,none⟩) (by have:=HSC.out;show _≤Cb;omega) (.int .i64 g.n)).setCell (p:=⟨Cb,6,none⟩) (by have:=HSC.out;show _≤Cb;omega) (.slice ea g.es.length ec));have HEV10:=hid (HEV.out.putC HC9.out ((subX_set _ Cb 5 (.int .i64 g.n)).trans (subX_set _ Cb 6 (.slice ea g.es.length ec))));generalize (w9.setCell ⟨Cb,5,none⟩ (.int .i64 g.n)).setCell ⟨Cb,6,none⟩ (.slice ea g.es.length ec)=W10 at*
   clear hC10 HC9 HR9 HB9;clear c0 c1 c2 c3 c4 c5 c6 c7 lc fc0 fc1 fc2 fc3 fc4 fc5 fc6 fc7 lr r0 r1 r2 r3 r4 r5 r6 r7 g0 g1 g2 g3 g4 g5 g6 g7;obtain⟨c0,c1,c2,c3,c4,c5,c6,c7⟩:=Blk.q8 HC10.out;have lc:=HC10.out.lt;obtain⟨fc0,fc1,fc2,fc3,fc4,fc5,fc6,fc7⟩:=Blk.z8 HC10.out;have lr:=HR10.out.lt;obtain⟨r0,r1,r2,r3,r4,r5,r6,r7⟩:=Blk.q8 HR10.out;obtain⟨g0,g1,g2,g3,g4,g5,g6,g7⟩:=Blk.z8 HR10.out;go_wp2_with fail;refine bodyPost_ret (results_cellA rfl rfl (load_cmd (blk8 (HR10.out) _ _ _ _ _ _ _ _))) rfl ?_;rw[hz.out];exact guess_fin (c:={cmd0 with kind:=0,name:=nm,g:=g}) (HR10.out) (Nat.le_refl _) (HB10.out) HEV10.out (IntsR.nil _) (fun g e=>e.elim (fun e=>HEF.out g e) (fun e=>by cases e))
  ·have hz:Hid (Z={cmd0 with kind:=0,name:=nm,g:=grOf (joinB (P.drop 2))}):=HZ2.out
   clear HZ2;have h2J:(2:Int)≤(P.length:Int):=by omega
   have HJ:=hid (c_JoinS W7 (HST7.out.drop (j:=2) (by omega)) (by rw[List.length_drop];have:=HPN.out;omega) (by have h1:=joinB_drop 2 P;have h2:=joinB_parts t;rw[HP.out]at h2;rw[h2]at h1;have:=HLT.out;omega));generalize joinB (P.drop 2)=jt at*
   go_wp2_with fail;refine HJ.out.mono ?_;rintro e w8 ⟨rfl,hB8⟩;have HB8:=hid (up HB7.out hB8);have HC8:=hid (HC7.out.below hB8);have HR8:=hid (HR7.out.below hB8);clear c0 c1 c2 c3 c4 c5 c6 c7 lc fc0 fc1 fc2 fc3 fc4 fc5 fc6 fc7 ll l0 lr r0 r1 r2 r3 r4 r5 r6 r7 g0 g1 g2 g3 g4 g5 g6 g7;clear hB8 HC7 HR7 HL7 HST7 HB7 HJ;dsimp only;go_wp2_with fail;refine(n_ReadGraphF jt w8 (HE.out.below HB8.out).env).mono ?_;rintro e w9 ⟨gv,rfl,hgr,hfe,hB9⟩;have HG:Hid (GrR w9 gv (grOf jt)):=hgr;clear hgr;generalize (tableP wGraph 45 true (opened (scanR jt))).2.1=z1 at*
   generalize (tableP wGraph 45 true (opened (scanR jt))).2.2=z2 at*
   obtain⟨ev,rfl,he⟩:=HG.out;obtain⟨ea,ec,rfl,_⟩:=id he;have HEV:=hid he;have HEF:Hid (∀ g,(Value.slice ea (grOf jt).es.length ec).ownBlock=some g→w.heap.size<g):=fun g e=>by
    have:=hfe _ _ g rfl e;have:=HR8.out.lt;omega
   clear hfe;generalize grOf jt=g at*
   have HB9:=hid (up HB8.out hB9);have HC9:=hid (HC8.out.below hB9);have HR9:=hid (HR8.out.below hB9);clear hB9 HC8 HR8 HB8 HG he;obtain⟨c0,c1,c2,c3,c4,c5,c6,c7⟩:=Blk.q8 HC9.out;have lc:=HC9.out.lt;obtain⟨fc0,fc1,fc2,fc3,fc4,fc5,fc6,fc7⟩:=Blk.z8 HC9.out;have lr:=HR9.out.lt;obtain⟨r0,r1,r2,r3,r4,r5,r6,r7⟩:=Blk.q8 HR9.out;obtain⟨g0,g1,g2,g3,g4,g5,g6,g7⟩:=Blk.z8 HR9.out;dsimp only;go_upto_region 21 with fail;have hC10:=((HC9.out.set 5 (.int .i64 g.n)).set 6 (.slice ea g.es.length ec));simp only[xM,xJ,xK]at hC10;have HC10:=hid hC10;have HR10:=hid ((HR9.out.other HCR.out 5 (.int .i64 g.n)).other HCR.out 6 (.slice ea g.es.length ec))
   have HB10:=hid ((HB9.out.setCell (p:=⟨Cb,5,none⟩) (by have:=HSC.out;show _≤Cb;omega) (.int .i64 g.n)).setCell (p:=⟨Cb,6,none⟩) (by have:=HSC.out;show _≤Cb;omega) (.slice ea g.es.length ec));have HEV10:=hid (HEV.out.putC HC9.out ((subX_set _ Cb 5 (.int .i64 g.n)).trans (subX_set _ Cb 6 (.slice ea g.es.length ec))));generalize (w9.setCell ⟨Cb,5,none⟩ (.int .i64 g.n)).setCell ⟨Cb,6,none⟩ (.slice ea g.es.length ec)=W10 at*
   clear hC10 HC9 HR9 HB9;clear c0 c1 c2 c3 c4 c5 c6 c7 lc fc0 fc1 fc2 fc3 fc4 fc5 fc6 fc7 lr r0 r1 r2 r3 r4 r5 r6 r7 g0 g1 g2 g3 g4 g5 g6 g7;obtain⟨c0,c1,c2,c3,c4,c5,c6,c7⟩:=Blk.q8 HC10.out;have lc:=HC10.out.lt;obtain⟨fc0,fc1,fc2,fc3,fc4,fc5,fc6,fc7⟩:=Blk.z8 HC10.out;have lr:=HR10.out.lt;obtain⟨r0,r1,r2,r3,r4,r5,r6,r7⟩:=Blk.q8 HR10.out;obtain⟨g0,g1,g2,g3,g4,g5,g6,g7⟩:=Blk.z8 HR10.out;go_wp2_with fail;refine bodyPost_ret (results_cellA rfl rfl (load_cmd (blk8 (HR10.out) _ _ _ _ _ _ _ _))) rfl ?_;rw[hz.out];exact guess_fin (c:={cmd0 with kind:=0,name:=nm,g:=g}) (HR10.out) (Nat.le_refl _) (HB10.out) HEV10.out (IntsR.nil _) (fun g e=>e.elim (fun e=>HEF.out g e) (fun e=>by cases e))
 ·by_cases h4:3<P.length
  ·by_cases h22:P.length=4
   ·have hz:Hid (Z={cmd0 with kind:=1,name:=nm,on:=P[3]?.getD [],vals:=(P.drop 4).map atoiV}):=HZ2.out.trans (if_pos h4)
    have h4I:(3:Int)<(P.length:Int):=by omega
    have h4J:(4:Int)≤(P.length:Int):=by omega
    have HSD0:StsR W7 (.slice (some ⟨Sb,0,none⟩) 0 0) (P.drop 4):=StsR.zero (by rw[← List.length_eq_zero_iff,List.length_drop];omega);have HSD:=hid HSD0;clear HSD0;have HPX4:Hid (∀ x∈P.drop 4,x.length≤281474976710656):=fun x hx=>HPX.out x (List.mem_of_mem_drop hx);have HPN4:Hid ((P.drop 4).length≤1000000):=by show _≤_;rw[List.length_drop];have:=HPN.out;omega
    obtain⟨b',off',eb,hSb3,hP3⟩:=HST7.out.at (k:=3) h4;injection eb with eb
    injection eb with eb1 eb2
    subst eb1 eb2;clear HZ2 h4;generalize (P.drop 4)=Q at*
    generalize P[3]?.getD []=on at*
    go_upto_region 12 with fail;let S:World→Prop:=fun w'=>Below W7.heap.size W7 w'
    (refine wp_region_pre 2 7 [] [0,1,2,3,4,6,5] S (by kernel_rfl) (by kernel_rfl) (by intro _ _ d _ _ h;cases d<;>exact h) ?_;simp only[xA,xB,xC,xD,xE,xF]);refine wpSeq_nil ⟨Below.drew (Below.refl _ _),?_⟩;(repeat ((refine' wpSeq_take rfl _ (by rfl) ?_ ?_;rotate_left;focus(intro w' hS;(try dsimp only at hS);have q0:w'.cell? ⟨Lb,0,none⟩=some (.slice (some ⟨Sb,0,none⟩) P.length P.length):=(Below.cell hS (p:=⟨Lb,0,none⟩) ll).trans l0;have q3:w'.cell? ⟨Sb,3,none⟩=some (.string (str on)):=(Below.cell hS (p:=⟨Sb,3,none⟩) hSb3).trans (by simpa using hP3);go_simp;(first|done|with_reducible rfl));(try go_frame));(try go_frame)))
    (refine wpSeq_call rfl (by rfl) (fun K hK=> ?_);go_simp;refine((s_ints Q (.slice (some ⟨Sb,0,none⟩) 0 0) _ ((HE.out.below HB7.out).below (Below.drew (Below.refl _ _))) (HSD.out.below (Below.drew (Below.refl _ _))) HPN4.out HPX4.out)).mono ?_;rintro e w8 ⟨va,vc,rfl,hv8,hf8,hB8⟩;refine hK _ _ (up (Below.drew (Below.refl _ _)) hB8) ?_;clear hK K;(try go_frame));refine wpSeq_nil ?_;clear S;have hB8':Below W7.heap.size W7 w8:=up (Below.drew (Below.refl _ _)) hB8;have HV8:=hid hv8;have HVF:Hid (∀ g,(Value.slice va (Q.map atoiV).length vc).ownBlock=some g→W7.heap.size≤g):=hf8;have HB8:=hid (up HB7.out hB8')
    have HC8:=hid (HC7.out.below hB8');have HR8:=hid (HR7.out.below hB8');have hW7:Cb<W7.heap.size∧w.heap.size<W7.heap.size:=⟨lc,lr⟩;have HW7:=hid hW7;clear c0 c1 c2 c3 c4 c5 c6 c7 lc fc0 fc1 fc2 fc3 fc4 fc5 fc6 fc7 ll l0 lr r0 r1 r2 r3 r4 r5 r6 r7 g0 g1 g2 g3 g4 g5 g6 g7;clear hB8 hB8' hv8 hf8 HC7 HR7 HL7 HST7 HB7 HSD hSb3 hP3 hW7;generalize Q.map atoiV=vs at*
    obtain⟨c0,c1,c2,c3,c4,c5,c6,c7⟩:=Blk.q8 HC8.out;have lc:=HC8.out.lt;obtain⟨fc0,fc1,fc2,fc3,fc4,fc5,fc6,fc7⟩:=Blk.z8 HC8.out;have lr:=HR8.out.lt;obtain⟨r0,r1,r2,r3,r4,r5,r6,r7⟩:=Blk.q8 HR8.out;obtain⟨g0,g1,g2,g3,g4,g5,g6,g7⟩:=Blk.z8 HR8.out;go_upto_region 21 with fail;have hC10:=((HC8.out.set 2 (.string (str on))).set 7 (.slice va vs.length vc));simp only[xM,xJ,xK]at hC10;have HC10:=hid hC10;have HR10:=hid ((HR8.out.other HCR.out 2 (.string (str on))).other HCR.out 7 (.slice va vs.length vc));have HB10:=hid ((HB8.out.setCell (p:=⟨Cb,2,none⟩) (by have:=HSC.out;show _≤Cb;omega) (.string (str on))).setCell (p:=⟨Cb,7,none⟩) (by have:=HSC.out;show _≤Cb;omega) (.slice va vs.length vc))
    have HV10:=hid (HV8.out.putF (g:=Cb) (fun e=>by have:=HVF.out _ e;have:=HW7.out.1;omega) ((subX_set _ Cb 2 (.string (str on))).trans (subX_set _ Cb 7 (.slice va vs.length vc))));generalize (w8.setCell ⟨Cb,2,none⟩ (.string (str on))).setCell ⟨Cb,7,none⟩ (.slice va vs.length vc)=W10 at*
    clear hC10 HC8 HR8 HB8;clear c0 c1 c2 c3 c4 c5 c6 c7 lc fc0 fc1 fc2 fc3 fc4 fc5 fc6 fc7 lr r0 r1 r2 r3 r4 r5 r6 r7 g0 g1 g2 g3 g4 g5 g6 g7;obtain⟨c0,c1,c2,c3,c4,c5,c6,c7⟩:=Blk.q8 HC10.out;have lc:=HC10.out.lt;obtain⟨fc0,fc1,fc2,fc3,fc4,fc5,fc6,fc7⟩:=Blk.z8 HC10.out;have lr:=HR10.out.lt;obtain⟨r0,r1,r2,r3,r4,r5,r6,r7⟩:=Blk.q8 HR10.out;obtain⟨g0,g1,g2,g3,g4,g5,g6,g7⟩:=Blk.z8 HR10.out;go_wp2_with fail;refine bodyPost_ret (results_cellA rfl rfl (load_cmd (blk8 (HR10.out) _ _ _ _ _ _ _ _))) rfl ?_;rw[hz.out];exact guess_fin (c:={cmd0 with kind:=1,name:=nm,on:=on,vals:=vs}) (HR10.out) (Nat.le_refl _) (HB10.out) (EdgesR.nil _) HV10.out (fun g e=>e.elim (fun e=>by cases e) (fun e=>by have:=HVF.out g e;have:=HW7.out.2;omega))
   ·have hz:Hid (Z={cmd0 with kind:=1,name:=nm,on:=P[3]?.getD [],vals:=(P.drop 4).map atoiV}):=HZ2.out.trans (if_pos h4)
    have h4I:(3:Int)<(P.length:Int):=by omega
    have h4J:(4:Int)≤(P.length:Int):=by omega
    have HSD0:StsR W7 (.slice (some ⟨Sb,4,none⟩) (P.length-4) (P.length-4)) (P.drop 4):=by simpa using HST7.out.drop (j:=4) (by omega)
    have HSD:=hid HSD0;clear HSD0;have HPX4:Hid (∀ x∈P.drop 4,x.length≤281474976710656):=fun x hx=>HPX.out x (List.mem_of_mem_drop hx);have HPN4:Hid ((P.drop 4).length≤1000000):=by show _≤_;rw[List.length_drop];have:=HPN.out;omega
    obtain⟨b',off',eb,hSb3,hP3⟩:=HST7.out.at (k:=3) h4;injection eb with eb
    injection eb with eb1 eb2
    subst eb1 eb2;clear HZ2 h4;generalize (P.drop 4)=Q at*
    generalize P[3]?.getD []=on at*
    go_upto_region 12 with fail;let S:World→Prop:=fun w'=>Below W7.heap.size W7 w'
    (refine wp_region_pre 2 7 [] [0,1,2,3,4,6,5] S (by kernel_rfl) (by kernel_rfl) (by intro _ _ d _ _ h;cases d<;>exact h) ?_;simp only[xA,xB,xC,xD,xE,xF]);refine wpSeq_nil ⟨Below.drew (Below.refl _ _),?_⟩;(repeat ((refine' wpSeq_take rfl _ (by rfl) ?_ ?_;rotate_left;focus(intro w' hS;(try dsimp only at hS);have q0:w'.cell? ⟨Lb,0,none⟩=some (.slice (some ⟨Sb,0,none⟩) P.length P.length):=(Below.cell hS (p:=⟨Lb,0,none⟩) ll).trans l0;have q3:w'.cell? ⟨Sb,3,none⟩=some (.string (str on)):=(Below.cell hS (p:=⟨Sb,3,none⟩) hSb3).trans (by simpa using hP3);go_simp;(first|done|with_reducible rfl));(try go_frame));(try go_frame)))
    (refine wpSeq_call rfl (by rfl) (fun K hK=> ?_);go_simp;refine((s_ints Q (.slice (some ⟨Sb,4,none⟩) (P.length-4) (P.length-4)) _ ((HE.out.below HB7.out).below (Below.drew (Below.refl _ _))) (HSD.out.below (Below.drew (Below.refl _ _))) HPN4.out HPX4.out)).mono ?_;rintro e w8 ⟨va,vc,rfl,hv8,hf8,hB8⟩;refine hK _ _ (up (Below.drew (Below.refl _ _)) hB8) ?_;clear hK K;(try go_frame));refine wpSeq_nil ?_;clear S;have hB8':Below W7.heap.size W7 w8:=up (Below.drew (Below.refl _ _)) hB8;have HV8:=hid hv8;have HVF:Hid (∀ g,(Value.slice va (Q.map atoiV).length vc).ownBlock=some g→W7.heap.size≤g):=hf8
    have HB8:=hid (up HB7.out hB8');have HC8:=hid (HC7.out.below hB8');have HR8:=hid (HR7.out.below hB8');have hW7:Cb<W7.heap.size∧w.heap.size<W7.heap.size:=⟨lc,lr⟩;have HW7:=hid hW7;clear c0 c1 c2 c3 c4 c5 c6 c7 lc fc0 fc1 fc2 fc3 fc4 fc5 fc6 fc7 ll l0 lr r0 r1 r2 r3 r4 r5 r6 r7 g0 g1 g2 g3 g4 g5 g6 g7;clear hB8 hB8' hv8 hf8 HC7 HR7 HL7 HST7 HB7 HSD hSb3 hP3 hW7;generalize Q.map atoiV=vs at*
    obtain⟨c0,c1,c2,c3,c4,c5,c6,c7⟩:=Blk.q8 HC8.out;have lc:=HC8.out.lt;obtain⟨fc0,fc1,fc2,fc3,fc4,fc5,fc6,fc7⟩:=Blk.z8 HC8.out;have lr:=HR8.out.lt;obtain⟨r0,r1,r2,r3,r4,r5,r6,r7⟩:=Blk.q8 HR8.out;obtain⟨g0,g1,g2,g3,g4,g5,g6,g7⟩:=Blk.z8 HR8.out;go_upto_region 21 with fail;have hC10:=((HC8.out.set 2 (.string (str on))).set 7 (.slice va vs.length vc));simp only[xM,xJ,xK]at hC10;have HC10:=hid hC10;have HR10:=hid ((HR8.out.other HCR.out 2 (.string (str on))).other HCR.out 7 (.slice va vs.length vc));have HB10:=hid ((HB8.out.setCell (p:=⟨Cb,2,none⟩) (by have:=HSC.out;show _≤Cb;omega) (.string (str on))).setCell (p:=⟨Cb,7,none⟩) (by have:=HSC.out;show _≤Cb;omega) (.slice va vs.length vc))
    have HV10:=hid (HV8.out.putF (g:=Cb) (fun e=>by have:=HVF.out _ e;have:=HW7.out.1;omega) ((subX_set _ Cb 2 (.string (str on))).trans (subX_set _ Cb 7 (.slice va vs.length vc))));generalize (w8.setCell ⟨Cb,2,none⟩ (.string (str on))).setCell ⟨Cb,7,none⟩ (.slice va vs.length vc)=W10 at*
    clear hC10 HC8 HR8 HB8;clear c0 c1 c2 c3 c4 c5 c6 c7 lc fc0 fc1 fc2 fc3 fc4 fc5 fc6 fc7 lr r0 r1 r2 r3 r4 r5 r6 r7 g0 g1 g2 g3 g4 g5 g6 g7;obtain⟨c0,c1,c2,c3,c4,c5,c6,c7⟩:=Blk.q8 HC10.out;have lc:=HC10.out.lt;obtain⟨fc0,fc1,fc2,fc3,fc4,fc5,fc6,fc7⟩:=Blk.z8 HC10.out;have lr:=HR10.out.lt;obtain⟨r0,r1,r2,r3,r4,r5,r6,r7⟩:=Blk.q8 HR10.out;obtain⟨g0,g1,g2,g3,g4,g5,g6,g7⟩:=Blk.z8 HR10.out;go_wp2_with fail;refine bodyPost_ret (results_cellA rfl rfl (load_cmd (blk8 (HR10.out) _ _ _ _ _ _ _ _))) rfl ?_;rw[hz.out];exact guess_fin (c:={cmd0 with kind:=1,name:=nm,on:=on,vals:=vs}) (HR10.out) (Nat.le_refl _) (HB10.out) (EdgesR.nil _) HV10.out (fun g e=>e.elim (fun e=>by cases e) (fun e=>by have:=HVF.out g e;have:=HW7.out.2;omega))
  ·have hz:Hid (Z={cmd0 with kind:=1,name:=nm}):=HZ2.out.trans (if_neg h4)
   have h4I:¬(3:Int)<(P.length:Int):=by omega
   clear HZ2 h4;go_wp2_with fail;refine bodyPost_ret (results_cellA rfl rfl (load_cmd (blk8 (HR7.out) _ _ _ _ _ _ _ _))) rfl ?_;rw[hz.out];exact guess_fin (c:={cmd0 with kind:=1,name:=nm}) (HR7.out) (Nat.le_refl _) (HB7.out) (EdgesR.nil _) (IntsR.nil _) (fun g e=>e.elim (fun e=>by cases e) (fun e=>by cases e))
 ·by_cases h22:P.length=2
  ·have hz:Hid (Z={cmd0 with kind:=2,name:=nm,vals:=(P.drop 2).map atoiV}):=HZ2.out
   have h2J:(2:Int)≤(P.length:Int):=by omega
   have HIN:=hid (s_ints (P.drop 2) (.slice (some ⟨Sb,0,none⟩) 0 0) W7 (HE.out.below HB7.out) (StsR.zero (by rw[← List.length_eq_zero_iff,List.length_drop];omega)) (by rw[List.length_drop];have:=HPN.out;omega) (fun x hx=>HPX.out x (List.mem_of_mem_drop hx)));clear HZ2;generalize (P.drop 2).map atoiV=vs at*
   go_wp2_with fail;refine HIN.out.mono ?_;rintro e w8 ⟨va,vc,rfl,hv8,hf8,hB8⟩;have HV8:=hid hv8;have HVF:Hid (∀ g,(Value.slice va vs.length vc).ownBlock=some g→W7.heap.size≤g):=hf8;have HB8:=hid (up HB7.out hB8);have HC8:=hid (HC7.out.below hB8);have HR8:=hid (HR7.out.below hB8);have hW7:Cb<W7.heap.size∧w.heap.size<W7.heap.size:=⟨lc,lr⟩;have HW7:=hid hW7;clear c0 c1 c2 c3 c4 c5 c6 c7 lc fc0 fc1 fc2 fc3 fc4 fc5 fc6 fc7 ll l0 lr r0 r1 r2 r3 r4 r5 r6 r7 g0 g1 g2 g3 g4 g5 g6 g7;clear hB8 hv8 hf8 HC7 HR7 HL7 HST7 HB7 HIN hW7;obtain⟨c0,c1,c2,c3,c4,c5,c6,c7⟩:=Blk.q8 HC8.out;have lc:=HC8.out.lt;obtain⟨fc0,fc1,fc2,fc3,fc4,fc5,fc6,fc7⟩:=Blk.z8 HC8.out
   have lr:=HR8.out.lt;obtain⟨r0,r1,r2,r3,r4,r5,r6,r7⟩:=Blk.q8 HR8.out;obtain⟨g0,g1,g2,g3,g4,g5,g6,g7⟩:=Blk.z8 HR8.out;dsimp only;go_upto_region 21 with fail;have hC10:=(HC8.out.set 7 (.slice va vs.length vc));simp only[xM,xJ,xK]at hC10;have HC10:=hid hC10;have HR10:=hid (HR8.out.other HCR.out 7 (.slice va vs.length vc));have HB10:=hid (HB8.out.setCell (p:=⟨Cb,7,none⟩) (by have:=HSC.out;show _≤Cb;omega) (.slice va vs.length vc));have HV10:=hid (HV8.out.putF (g:=Cb) (fun e=>by have:=HVF.out _ e;have:=HW7.out.1;omega) (subX_set _ Cb 7 (.slice va vs.length vc)));generalize w8.setCell ⟨Cb,7,none⟩ (.slice va vs.length vc)=W10 at*
   clear hC10 HC8 HR8 HB8;clear c0 c1 c2 c3 c4 c5 c6 c7 lc fc0 fc1 fc2 fc3 fc4 fc5 fc6 fc7 lr r0 r1 r2 r3 r4 r5 r6 r7 g0 g1 g2 g3 g4 g5 g6 g7;obtain⟨c0,c1,c2,c3,c4,c5,c6,c7⟩:=Blk.q8 HC10.out;have lc:=HC10.out.lt;obtain⟨fc0,fc1,fc2,fc3,fc4,fc5,fc6,fc7⟩:=Blk.z8 HC10.out;have lr:=HR10.out.lt;obtain⟨r0,r1,r2,r3,r4,r5,r6,r7⟩:=Blk.q8 HR10.out;obtain⟨g0,g1,g2,g3,g4,g5,g6,g7⟩:=Blk.z8 HR10.out;go_wp2_with fail;refine bodyPost_ret (results_cellA rfl rfl (load_cmd (blk8 (HR10.out) _ _ _ _ _ _ _ _))) rfl ?_;rw[hz.out];exact guess_fin (c:={cmd0 with kind:=2,name:=nm,vals:=vs}) (HR10.out) (Nat.le_refl _) (HB10.out) (EdgesR.nil _) HV10.out (fun g e=>e.elim (fun e=>by cases e) (fun e=>by have:=HVF.out g e;have:=HW7.out.2;omega))
  ·have hz:Hid (Z={cmd0 with kind:=2,name:=nm,vals:=(P.drop 2).map atoiV}):=HZ2.out
   have h2J:(2:Int)≤(P.length:Int):=by omega
   have HIN:=hid (s_ints (P.drop 2) (.slice (some ⟨Sb,2,none⟩) (P.length-2) (P.length-2)) W7 (HE.out.below HB7.out) (by simpa using HST7.out.drop (j:=2) (by omega)) (by rw[List.length_drop];have:=HPN.out;omega) (fun x hx=>HPX.out x (List.mem_of_mem_drop hx)));clear HZ2;generalize (P.drop 2).map atoiV=vs at*
   go_wp2_with fail;refine HIN.out.mono ?_;rintro e w8 ⟨va,vc,rfl,hv8,hf8,hB8⟩;have HV8:=hid hv8;have HVF:Hid (∀ g,(Value.slice va vs.length vc).ownBlock=some g→W7.heap.size≤g):=hf8;have HB8:=hid (up HB7.out hB8);have HC8:=hid (HC7.out.below hB8);have HR8:=hid (HR7.out.below hB8);have hW7:Cb<W7.heap.size∧w.heap.size<W7.heap.size:=⟨lc,lr⟩;have HW7:=hid hW7;clear c0 c1 c2 c3 c4 c5 c6 c7 lc fc0 fc1 fc2 fc3 fc4 fc5 fc6 fc7 ll l0 lr r0 r1 r2 r3 r4 r5 r6 r7 g0 g1 g2 g3 g4 g5 g6 g7;clear hB8 hv8 hf8 HC7 HR7 HL7 HST7 HB7 HIN hW7;obtain⟨c0,c1,c2,c3,c4,c5,c6,c7⟩:=Blk.q8 HC8.out;have lc:=HC8.out.lt;obtain⟨fc0,fc1,fc2,fc3,fc4,fc5,fc6,fc7⟩:=Blk.z8 HC8.out
   have lr:=HR8.out.lt;obtain⟨r0,r1,r2,r3,r4,r5,r6,r7⟩:=Blk.q8 HR8.out;obtain⟨g0,g1,g2,g3,g4,g5,g6,g7⟩:=Blk.z8 HR8.out;dsimp only;go_upto_region 21 with fail;have hC10:=(HC8.out.set 7 (.slice va vs.length vc));simp only[xM,xJ,xK]at hC10;have HC10:=hid hC10;have HR10:=hid (HR8.out.other HCR.out 7 (.slice va vs.length vc));have HB10:=hid (HB8.out.setCell (p:=⟨Cb,7,none⟩) (by have:=HSC.out;show _≤Cb;omega) (.slice va vs.length vc));have HV10:=hid (HV8.out.putF (g:=Cb) (fun e=>by have:=HVF.out _ e;have:=HW7.out.1;omega) (subX_set _ Cb 7 (.slice va vs.length vc)));generalize w8.setCell ⟨Cb,7,none⟩ (.slice va vs.length vc)=W10 at*
   clear hC10 HC8 HR8 HB8;clear c0 c1 c2 c3 c4 c5 c6 c7 lc fc0 fc1 fc2 fc3 fc4 fc5 fc6 fc7 lr r0 r1 r2 r3 r4 r5 r6 r7 g0 g1 g2 g3 g4 g5 g6 g7;obtain⟨c0,c1,c2,c3,c4,c5,c6,c7⟩:=Blk.q8 HC10.out;have lc:=HC10.out.lt;obtain⟨fc0,fc1,fc2,fc3,fc4,fc5,fc6,fc7⟩:=Blk.z8 HC10.out;have lr:=HR10.out.lt;obtain⟨r0,r1,r2,r3,r4,r5,r6,r7⟩:=Blk.q8 HR10.out;obtain⟨g0,g1,g2,g3,g4,g5,g6,g7⟩:=Blk.z8 HR10.out;go_wp2_with fail;refine bodyPost_ret (results_cellA rfl rfl (load_cmd (blk8 (HR10.out) _ _ _ _ _ _ _ _))) rfl ?_;rw[hz.out];exact guess_fin (c:={cmd0 with kind:=2,name:=nm,vals:=vs}) (HR10.out) (Nat.le_refl _) (HB10.out) (EdgesR.nil _) HV10.out (fun g e=>e.elim (fun e=>by cases e) (fun e=>by have:=HVF.out g e;have:=HW7.out.2;omega))
 ·have hz:Hid (Z={cmd0 with kind:=3,name:=nm,q:=atoiV (P[P.length-1]?.getD [])}):=HZ2.out
  obtain⟨m,hm⟩:∃m,m=P.length-1:=⟨_,rfl⟩;rw[← hm]at hz;have hpm:(P.length:Int)-1=(m:Int):=by omega
  have hmne:¬P.length=m:=by omega
  have hmN:m≤P.length:=by omega
  have hmu:(P.length:Int)≤9223372036854775807:=by have:=HPN.out;omega
  have hwm:IntKind.i64.wrap (m:Int)=(m:Int):=IntWalk.i64_in _ (by omega);have hm0:(0:Int)≤(m:Int):=by omega
  have hm1:(m:Int)≤(P.length:Int):=by omega
  have HIN:=hid (s_ints (P.drop m) (.slice (some ⟨Sb,m,none⟩) (P.length-m) (P.length-m)) W7 (HE.out.below HB7.out) (by simpa using HST7.out.drop (j:=m) (by omega)) (by rw[List.length_drop];have:=HPN.out;omega) (fun x hx=>HPX.out x (List.mem_of_mem_drop hx)));have hv1:(P.drop m).map atoiV=[atoiV (P[m]?.getD [])]:=by
   rw[List.drop_eq_getElem_cons (by omega),show m+1=P.length by omega,List.drop_length,List.getElem?_eq_getElem (by omega)];rfl
  rw[hv1]at HIN;generalize atoiV (P[m]?.getD [])=x at*
  clear HZ2 hv1 hm;go_wp2_with fail;refine HIN.out.mono ?_;rintro e w8 ⟨va,vc,rfl,hv8,hf8,hB8⟩;obtain⟨va',vc',ev,hvc,hvm,_,hvx⟩:=hv8;injection ev with ev1 _ ev3
  subst ev1 ev3;obtain⟨vb,vo,rfl,hvb,hvx⟩:=hvx.int (by simp);have hx0:=hvx 0 (by simp);simp only[xH,Option.getD_some,Nat.add_zero]at hx0;have HB8:=hid (up HB7.out hB8);have HC8:=hid (HC7.out.below hB8);have HR8:=hid (HR7.out.below hB8);clear c0 c1 c2 c3 c4 c5 c6 c7 lc fc0 fc1 fc2 fc3 fc4 fc5 fc6 fc7 ll l0 lr r0 r1 r2 r3 r4 r5 r6 r7 g0 g1 g2 g3 g4 g5 g6 g7;clear hB8 hf8 HC7 HR7 HL7 HST7 HB7 HIN hvx;obtain⟨c0,c1,c2,c3,c4,c5,c6,c7⟩:=Blk.q8 HC8.out;have lc:=HC8.out.lt;obtain⟨fc0,fc1,fc2,fc3,fc4,fc5,fc6,fc7⟩:=Blk.z8 HC8.out;have lr:=HR8.out.lt;obtain⟨r0,r1,r2,r3,r4,r5,r6,r7⟩:=Blk.q8 HR8.out;obtain⟨g0,g1,g2,g3,g4,g5,g6,g7⟩:=Blk.z8 HR8.out
  dsimp only;go_upto_region 21 with fail;have hC10:=(HC8.out.set 4 (.int .i64 x));simp only[xM,xJ,xK]at hC10;have HC10:=hid hC10;have HR10:=hid (HR8.out.other HCR.out 4 (.int .i64 x));have HB10:=hid (HB8.out.setCell (p:=⟨Cb,4,none⟩) (by have:=HSC.out;show _≤Cb;omega) (.int .i64 x));generalize w8.setCell ⟨Cb,4,none⟩ (.int .i64 x)=W10 at*
  clear hC10 HC8 HR8 HB8;clear c0 c1 c2 c3 c4 c5 c6 c7 lc fc0 fc1 fc2 fc3 fc4 fc5 fc6 fc7 lr r0 r1 r2 r3 r4 r5 r6 r7 g0 g1 g2 g3 g4 g5 g6 g7;obtain⟨c0,c1,c2,c3,c4,c5,c6,c7⟩:=Blk.q8 HC10.out;have lc:=HC10.out.lt;obtain⟨fc0,fc1,fc2,fc3,fc4,fc5,fc6,fc7⟩:=Blk.z8 HC10.out;have lr:=HR10.out.lt;obtain⟨r0,r1,r2,r3,r4,r5,r6,r7⟩:=Blk.q8 HR10.out;obtain⟨g0,g1,g2,g3,g4,g5,g6,g7⟩:=Blk.z8 HR10.out;go_wp2_with fail;refine bodyPost_ret (results_cellA rfl rfl (load_cmd (blk8 (HR10.out) _ _ _ _ _ _ _ _))) rfl ?_;rw[hz.out];exact guess_fin (c:={cmd0 with kind:=3,name:=nm,q:=x}) (HR10.out) (Nat.le_refl _) (HB10.out) (EdgesR.nil _) (IntsR.nil _) (fun g e=>e.elim (fun e=>by cases e) (fun e=>by cases e))
 ·have hz:Hid (Z={cmd0 with kind:=4,name:=nm,q:=atoiV (P[P.length-1]?.getD [])}):=HZ2.out
  obtain⟨m,hm⟩:∃m,m=P.length-1:=⟨_,rfl⟩;rw[← hm]at hz;have hpm:(P.length:Int)-1=(m:Int):=by omega
  have hmne:¬P.length=m:=by omega
  have hmN:m≤P.length:=by omega
  have hmu:(P.length:Int)≤9223372036854775807:=by have:=HPN.out;omega
  have hwm:IntKind.i64.wrap (m:Int)=(m:Int):=IntWalk.i64_in _ (by omega);have hm0:(0:Int)≤(m:Int):=by omega
  have hm1:(m:Int)≤(P.length:Int):=by omega
  have HIN:=hid (s_ints (P.drop m) (.slice (some ⟨Sb,m,none⟩) (P.length-m) (P.length-m)) W7 (HE.out.below HB7.out) (by simpa using HST7.out.drop (j:=m) (by omega)) (by rw[List.length_drop];have:=HPN.out;omega) (fun x hx=>HPX.out x (List.mem_of_mem_drop hx)));have hv1:(P.drop m).map atoiV=[atoiV (P[m]?.getD [])]:=by
   rw[List.drop_eq_getElem_cons (by omega),show m+1=P.length by omega,List.drop_length,List.getElem?_eq_getElem (by omega)];rfl
  rw[hv1]at HIN;generalize atoiV (P[m]?.getD [])=x at*
  clear HZ2 hv1 hm;go_wp2_with fail;refine HIN.out.mono ?_;rintro e w8 ⟨va,vc,rfl,hv8,hf8,hB8⟩;obtain⟨va',vc',ev,hvc,hvm,_,hvx⟩:=hv8;injection ev with ev1 _ ev3
  subst ev1 ev3;obtain⟨vb,vo,rfl,hvb,hvx⟩:=hvx.int (by simp);have hx0:=hvx 0 (by simp);simp only[xH,Option.getD_some,Nat.add_zero]at hx0;have HB8:=hid (up HB7.out hB8);have HC8:=hid (HC7.out.below hB8);have HR8:=hid (HR7.out.below hB8);clear c0 c1 c2 c3 c4 c5 c6 c7 lc fc0 fc1 fc2 fc3 fc4 fc5 fc6 fc7 ll l0 lr r0 r1 r2 r3 r4 r5 r6 r7 g0 g1 g2 g3 g4 g5 g6 g7;clear hB8 hf8 HC7 HR7 HL7 HST7 HB7 HIN hvx;obtain⟨c0,c1,c2,c3,c4,c5,c6,c7⟩:=Blk.q8 HC8.out;have lc:=HC8.out.lt;obtain⟨fc0,fc1,fc2,fc3,fc4,fc5,fc6,fc7⟩:=Blk.z8 HC8.out;have lr:=HR8.out.lt;obtain⟨r0,r1,r2,r3,r4,r5,r6,r7⟩:=Blk.q8 HR8.out;obtain⟨g0,g1,g2,g3,g4,g5,g6,g7⟩:=Blk.z8 HR8.out
  dsimp only;go_upto_region 21 with fail;have hC10:=(HC8.out.set 4 (.int .i64 x));simp only[xM,xJ,xK]at hC10;have HC10:=hid hC10;have HR10:=hid (HR8.out.other HCR.out 4 (.int .i64 x));have HB10:=hid (HB8.out.setCell (p:=⟨Cb,4,none⟩) (by have:=HSC.out;show _≤Cb;omega) (.int .i64 x));generalize w8.setCell ⟨Cb,4,none⟩ (.int .i64 x)=W10 at*
  clear hC10 HC8 HR8 HB8;clear c0 c1 c2 c3 c4 c5 c6 c7 lc fc0 fc1 fc2 fc3 fc4 fc5 fc6 fc7 lr r0 r1 r2 r3 r4 r5 r6 r7 g0 g1 g2 g3 g4 g5 g6 g7;obtain⟨c0,c1,c2,c3,c4,c5,c6,c7⟩:=Blk.q8 HC10.out;have lc:=HC10.out.lt;obtain⟨fc0,fc1,fc2,fc3,fc4,fc5,fc6,fc7⟩:=Blk.z8 HC10.out;have lr:=HR10.out.lt;obtain⟨r0,r1,r2,r3,r4,r5,r6,r7⟩:=Blk.q8 HR10.out;obtain⟨g0,g1,g2,g3,g4,g5,g6,g7⟩:=Blk.z8 HR10.out;go_wp2_with fail;refine bodyPost_ret (results_cellA rfl rfl (load_cmd (blk8 (HR10.out) _ _ _ _ _ _ _ _))) rfl ?_;rw[hz.out];exact guess_fin (c:={cmd0 with kind:=4,name:=nm,q:=x}) (HR10.out) (Nat.le_refl _) (HB10.out) (EdgesR.nil _) (IntsR.nil _) (fun g e=>e.elim (fun e=>by cases e) (fun e=>by cases e))
 ·by_cases h4:3<P.length
  ·have hz:Hid (Z={cmd0 with kind:=5,name:=nm,on:=P[2]?.getD [],other:=P[3]?.getD []}):=HZ2.out.trans (if_pos h4)
   have h4I:(3:Int)<(P.length:Int):=by omega
   have h2I':(2:Int)<(P.length:Int):=by omega
   obtain⟨b',off',eb,hSb3,hP3⟩:=HST7.out.at (k:=3) h4;injection eb with eb
   injection eb with eb1 eb2
   subst eb1 eb2;obtain⟨b',off',eb,_,hP2⟩:=HST7.out.at (k:=2) (by omega);injection eb with eb
   injection eb with eb1 eb2
   subst eb1 eb2;have HNE:Hid (Lb≠Cb∧Sb≠Cb):=by have:=HSC.out;exact⟨by omega,by omega⟩
   clear HZ2 h4;generalize P[2]?.getD []=on at*
   generalize P[3]?.getD []=ot at*
   go_upto_region 20 with fail;let S:World→Prop:=fun w'=>W7.grownBy w' (some Cb)
   (refine wp_region_pre 2 8 [] [0,1,2,3,4,5,6,7] S (by kernel_rfl) (by kernel_rfl) (by intro _ _ d _ _ h;cases d<;>exact h) ?_;simp only[xA,xB,xC,xD,xE,xF]);refine wpSeq_nil ⟨Below.toGrown (Below.drew (Below.refl _ _)) _,?_⟩;(repeat ((refine' wpSeq_take rfl _ (by rfl) ?_ ?_;rotate_left;focus(intro w' hS;(try dsimp only at hS);have q0:w'.cell? ⟨Lb,0,none⟩=some (.slice (some ⟨Sb,0,none⟩) P.length P.length):=(grown_cellC hS (p:=⟨Lb,0,none⟩) ll HNE.out.1).trans l0;have q2:w'.cell? ⟨Sb,2,none⟩=some (.string (str on)):=(grown_cellC hS (p:=⟨Sb,2,none⟩) hSb3 HNE.out.2).trans (by simpa using hP2);have q3:w'.cell? ⟨Sb,3,none⟩=some (.string (str ot)):=(grown_cellC hS (p:=⟨Sb,3,none⟩) hSb3 HNE.out.2).trans (by simpa using hP3);go_simp;(first|done|with_reducible rfl));(try go_frame));(try go_frame)))
   (refine wpSeq_call rfl (by rfl) (fun K hK=> ?_);go_simp;refine hK _ _ (grown_tr (Below.toGrown (Below.drew (Below.refl _ _)) _) (grown_put _ _ _ _)) ?_;clear hK K;(try go_frame));refine wpSeq_nil ?_;clear S;go_upto_region 21 with fail;have hC10:=(Blk.drew ((HC7.out.set 2 (.string (str on))).set 3 (.string (str ot))));simp only[xM,xJ,xK]at hC10;have HC10:=hid hC10;have HR10:=hid (Blk.drew ((HR7.out.other HCR.out 2 (.string (str on))).other HCR.out 3 (.string (str ot))));have HB10:=hid (((HB7.out.setCell (p:=⟨Cb,2,none⟩) (by have:=HSC.out;show _≤Cb;omega) (.string (str on))).setCell (p:=⟨Cb,3,none⟩) (by have:=HSC.out;show _≤Cb;omega) (.string (str ot))).trans (Below.drew (Below.refl _ _)))
   generalize ((W7.setCell ⟨Cb,2,none⟩ (.string (str on))).setCell ⟨Cb,3,none⟩ (.string (str ot))).drew=W10 at*
   clear hC10 HC7 HR7 HB7;clear c0 c1 c2 c3 c4 c5 c6 c7 lc fc0 fc1 fc2 fc3 fc4 fc5 fc6 fc7 lr r0 r1 r2 r3 r4 r5 r6 r7 g0 g1 g2 g3 g4 g5 g6 g7;obtain⟨c0,c1,c2,c3,c4,c5,c6,c7⟩:=Blk.q8 HC10.out;have lc:=HC10.out.lt;obtain⟨fc0,fc1,fc2,fc3,fc4,fc5,fc6,fc7⟩:=Blk.z8 HC10.out;have lr:=HR10.out.lt;obtain⟨r0,r1,r2,r3,r4,r5,r6,r7⟩:=Blk.q8 HR10.out;obtain⟨g0,g1,g2,g3,g4,g5,g6,g7⟩:=Blk.z8 HR10.out;go_wp2_with fail;refine bodyPost_ret (results_cellA rfl rfl (load_cmd (blk8 (HR10.out) _ _ _ _ _ _ _ _))) rfl ?_;rw[hz.out];exact guess_fin (c:={cmd0 with kind:=5,name:=nm,on:=on,other:=ot}) (HR10.out) (Nat.le_refl _) (HB10.out) (EdgesR.nil _) (IntsR.nil _) (fun g e=>e.elim (fun e=>by cases e) (fun e=>by cases e))
  ·have hz:Hid (Z={cmd0 with kind:=5,name:=nm}):=HZ2.out.trans (if_neg h4)
   have h4I:¬(3:Int)<(P.length:Int):=by omega
   clear HZ2 h4;go_wp2_with fail;refine bodyPost_ret (results_cellA rfl rfl (load_cmd (blk8 (HR7.out) _ _ _ _ _ _ _ _))) rfl ?_;rw[hz.out];exact guess_fin (c:={cmd0 with kind:=5,name:=nm}) (HR7.out) (Nat.le_refl _) (HB7.out) (EdgesR.nil _) (IntsR.nil _) (fun g e=>e.elim (fun e=>by cases e) (fun e=>by cases e))
 ·have hz:Hid (Z={cmd0 with kind:=6,name:=nm}):=HZ2.out
  clear HZ2;go_wp2_with fail;refine bodyPost_ret (results_cellA rfl rfl (load_cmd (blk8 (HR7.out) _ _ _ _ _ _ _ _))) rfl ?_;rw[hz.out];exact guess_fin (c:={cmd0 with kind:=6,name:=nm}) (HR7.out) (Nat.le_refl _) (HB7.out) (EdgesR.nil _) (IntsR.nil _) (fun g e=>e.elim (fun e=>by cases e) (fun e=>by cases e))
 ·have hz:Hid (Z={cmd0 with kind:=7,name:=nm}):=HZ2.out
  clear HZ2;go_wp2_with fail;refine bodyPost_ret (results_cellA rfl rfl (load_cmd (blk8 (HR7.out) _ _ _ _ _ _ _ _))) rfl ?_;rw[hz.out];exact guess_fin (c:={cmd0 with kind:=7,name:=nm}) (HR7.out) (Nat.le_refl _) (HB7.out) (EdgesR.nil _) (IntsR.nil _) (fun g e=>e.elim (fun e=>by cases e) (fun e=>by cases e))
 ·have hz:Hid (Z={cmd0 with kind:=8,name:=nm}):=HZ2.out
  clear HZ2;go_wp2_with fail;refine bodyPost_ret (results_cellA rfl rfl (load_cmd (blk8 (HR7.out) _ _ _ _ _ _ _ _))) rfl ?_;rw[hz.out];exact guess_fin (c:={cmd0 with kind:=8,name:=nm}) (HR7.out) (Nat.le_refl _) (HB7.out) (EdgesR.nil _) (IntsR.nil _) (fun g e=>e.elim (fun e=>by cases e) (fun e=>by cases e))
end Go.Proofs.YtclgllmipcbagaaGreatDoor
