/-
  Parts of the proof: XU4A
-/
import Derived.Test.YtclgllmipcbagaaGreatDoorBk24
import Derived.Test.YtclgllmipcbagaaGreatDoorBk12
namespace Go.Proofs.YtclgllmipcbagaaGreatDoor
open Go.RowKit
set_option linter.unusedVariables false
set_option linter.unusedSimpArgs false
set_option maxRecDepth 100000
set_option maxHeartbeats 16000000
theorem s_guessedA (t:List UInt8)(w:World)(hE:EnvS w)(hl:t.length≤4096)(hkk:kIx ((parts32 t)[0]?.getD [])=0∨kIx ((parts32 t)[0]?.getD [])=2):Calls Tryz.prog 70 #[.string (str t)] w (RetCmd (guessP t) w):=by
 obtain⟨Z,HZ⟩:∃Z,Hid (Z=guessP t):=⟨_,rfl⟩;rw[← HZ.out];have HE:=hid hE;have HKK:=hid hkk;clear hkk;have HLT:=hid hl;clear hE;have hmf:∀(fn:Fn) (first cap:Array Value) (w:World),(Instr.makeFunc fn first cap).run Tryz.prog w= .ok (.func fn first cap) w:=fun _ _ _ _=>rfl;go_enter Tryz.func70,Tryz.ntmps70;go_upto_region 1 with fail;have HR:=hid (Blk.new w #[.int .i64 0,.string ⟨#[]⟩,.string ⟨#[]⟩,.string ⟨#[]⟩,.int .i64 0,.int .i64 0,.slice none 0 0,.slice none 0 0] 31);have HB0:Hid (Below w.heap.size w (w.alloc (.cells #[.int .i64 0,.string ⟨#[]⟩,.string ⟨#[]⟩,.string ⟨#[]⟩,.int .i64 0,.int .i64 0,.slice none 0 0,.slice none 0 0] 31))):=by show Below _ _ _;go_grown
 generalize w.alloc (.cells #[.int .i64 0,.string ⟨#[]⟩,.string ⟨#[]⟩,.string ⟨#[]⟩,.int .i64 0,.int .i64 0,.slice none 0 0,.slice none 0 0] 31)=W0 at*
 obtain⟨m,hm⟩:=(HE.out.below HB0.out).mx;have HSP:=hid (c_Split t m W0 (by omega) hm);have HPL:=hid (parts32_ne t);clear hm;generalize hP:parts32 t=P at*
 have HP:=hid hP;clear hP;go_wp2_with fail;refine HSP.out.mono ?_;rintro e w1 ⟨rfl,hw1⟩;have hB1:Below W0.heap.size W0 w1:=by rw[hw1];go_grown
 have HST:Hid (StsR w1 (.slice (some ⟨W0.heap.size,0,none⟩) P.length P.length) P):=by
  refine⟨_,_,rfl,Nat.le_refl _,?_,.inr ⟨W0.heap.size,0,rfl,by rw[hw1];simp,fun i hi=> ?_⟩⟩
  ·have:=parts_len t
   have h2:=List.count_le_length (l:=t) (a:=32);rw[HP.out]at this;omega
  ·rw[hw1,Nat.zero_add,(Blk.new W0 _ _).cell i,List.getElem?_toArray]
 have HB1:=hid (up HB0.out hB1);have HR1:=hid (HR.out.below hB1);clear hB1 hw1 HSP HR HB0;generalize W0.heap.size=Sb at*
 dsimp only;go_upto_region 2 with fail;have HL:=hid (Blk.new w1 #[.slice (some ⟨Sb,0,none⟩) P.length P.length] 103);have hB2:Below w1.heap.size w1 (w1.alloc (.cells #[.slice (some ⟨Sb,0,none⟩) P.length P.length] 103)):=by go_grown
 have HB2:=hid (up HB1.out hB2);have HST2:=hid (HST.out.below hB2);have HR2:=hid (HR1.out.below hB2);generalize w1.alloc (.cells #[.slice (some ⟨Sb,0,none⟩) P.length P.length] 103)=W2 at*
 generalize w1.heap.size=Lb at*
 clear hB2 HR1 HB1 HST;have hne:0<P.length:=by
  cases P with
  |nil=>exact absurd rfl HPL.out
  |cons x r=>simp
 go_upto_region 3 with (first
  |(go_at_call 54;refine(s_verbs _).mono ?_;rintro e w1 ⟨rfl,hB1⟩;have HB3:=hid (up HB2.out hB1);have HST3:=hid (HST2.out.below hB1);have HR3:=hid (HR2.out.below hB1);have HL3:=hid (HL.out.below hB1);clear hB1)
  |(refine wpList_storeS (o:=⟨none,_,_,_,_,_⟩) _ rfl _ _ 111 rfl (.pointer (some ⟨w1.heap.size,0,none⟩)) rfl (.agg verbsC) rfl _ (run_storeAt_new w1 111 _ verbsC size_verbs rfl one_verbs) ?_))
 have HA4:=hid (Blk.new w1 verbsC 111);have hB4:Below w1.heap.size w1 (w1.alloc (.cells verbsC 111)):=by go_grown
 have HB4:=hid (up HB3.out hB4);have HST4:=hid (HST3.out.below hB4);have HR4:=hid (HR3.out.below hB4);have HL4:=hid (HL3.out.below hB4);generalize w1.alloc (.cells verbsC 111)=W4 at*
 generalize w1.heap.size=A at*
 clear hB4 HB3 HST3 HR3 HL3 HB2 HST2 HR2 HL;obtain⟨b',off',eb,hSb,hP0⟩:=HST4.out.at hne;injection eb with eb
 injection eb with eb1 eb2
 subst eb1 eb2;have hL0:W4.cell? ⟨Lb,0,none⟩=some (.slice (some ⟨Sb,0,none⟩) P.length P.length):=(HL4.out.cell 0).trans rfl;have HIX:=hid (s_verbIx (P[0]?.getD []) A Lb Sb 0 P.length P.length W4 HA4.out hL0 HL4.out.lt (by simpa using hP0) hSb hne);clear hP0 hL0 hSb;generalize hk:kIx (P[0]?.getD [])=k at*
 have HK:=hid hk;clear hk;go_wp2_with fail;refine HIX.out.mono ?_;rintro e w5 ⟨rfl,hB5⟩;have HB5:=hid (up HB4.out hB5);have HST5:=hid (HST4.out.below hB5);have HR5:=hid (HR4.out.below hB5);have HL5:=hid (HL4.out.below hB5);clear hB5 HB4 HST4 HR4 HL4 HA4 HIX;dsimp only;go_upto_region 4 with fail;have HC6:=hid (Blk.new w5 #[.int .i64 k,.string ⟨#[]⟩,.string ⟨#[]⟩,.string ⟨#[]⟩,.int .i64 0,.int .i64 0,.slice none 0 0,.slice none 0 0] 31);have hB6:Below w5.heap.size w5 (w5.alloc (.cells #[.int .i64 k,.string ⟨#[]⟩,.string ⟨#[]⟩,.string ⟨#[]⟩,.int .i64 0,.int .i64 0,.slice none 0 0,.slice none 0 0] 31)):=by go_grown
 have HSC:Hid (Sb<w5.heap.size∧Lb<w5.heap.size∧w.heap.size<w5.heap.size):=⟨(by obtain⟨b',off',eb,h,_⟩:=HST5.out.at hne;injection eb with eb;injection eb with eb1 eb2;subst eb1;exact h),HL5.out.lt,HR5.out.lt⟩;have HB6:=hid (up HB5.out hB6);have HST6:=hid (HST5.out.below hB6);have HR6:=hid (HR5.out.below hB6);have HL6:=hid (HL5.out.below hB6);generalize w5.alloc (.cells #[.int .i64 k,.string ⟨#[]⟩,.string ⟨#[]⟩,.string ⟨#[]⟩,.int .i64 0,.int .i64 0,.slice none 0 0,.slice none 0 0] 31)=W6 at*
 generalize w5.heap.size=Cb at*
 clear hB6 HB5 HST5 HR5 HL5
 have HZ1:Hid (Z=if P.length<2∨k<0 then{cmd0 with kind:=k}else
  (if k=0 then{cmd0 with kind:=k,name:=P[1]?.getD [],g:=grOf (joinB (P.drop 2))}
  else if k=1 then(if 3<P.length then{cmd0 with kind:=k,name:=P[1]?.getD [],on:=P[3]?.getD [],vals:=(P.drop 4).map atoiV}else{cmd0 with kind:=k,name:=P[1]?.getD []})
  else if k=2 then{cmd0 with kind:=k,name:=P[1]?.getD [],vals:=(P.drop 2).map atoiV}
  else if k=3∨k=4 then{cmd0 with kind:=k,name:=P[1]?.getD [],q:=atoiV (P[P.length-1]?.getD [])}
  else if k=5 then(if 3<P.length then{cmd0 with kind:=k,name:=P[1]?.getD [],on:=P[2]?.getD [],other:=P[3]?.getD []}else{cmd0 with kind:=k,name:=P[1]?.getD []})
  else{cmd0 with kind:=k,name:=P[1]?.getD []})):=by
  show _=_
  rw[HZ.out]
  unfold guessP
  rw[HP.out]
  dsimp only
  rw[HK.out]
 have HKL:Hid (k≤8):=by show _≤_;rw[← HK.out];exact kIx_le _
 clear HZ;have lc:=HC6.out.lt;have c0:=HC6.out.cell 0;have c1:=HC6.out.cell 1;have c2:=HC6.out.cell 2;have c3:=HC6.out.cell 3;have c4:=HC6.out.cell 4;have c5:=HC6.out.cell 5;have c6:=HC6.out.cell 6;have c7:=HC6.out.cell 7;have ll:=HL6.out.lt;have l0:=HL6.out.cell 0;have lr:=HR6.out.lt;have r0:=HR6.out.cell 0;have r1:=HR6.out.cell 1;have r2:=HR6.out.cell 2;have r3:=HR6.out.cell 3;have r4:=HR6.out.cell 4;have r5:=HR6.out.cell 5;have r6:=HR6.out.cell 6;have r7:=HR6.out.cell 7;have g0:=HR6.out.frozen 0;have g1:=HR6.out.frozen 1;have g2:=HR6.out.frozen 2;have g3:=HR6.out.frozen 3;have g4:=HR6.out.frozen 4
 have g5:=HR6.out.frozen 5;have g6:=HR6.out.frozen 6;have g7:=HR6.out.frozen 7;simp only[xG,xH,xI]at c0 c1 c2 c3 c4 c5 c6 c7 l0 r0 r1 r2 r3 r4 r5 r6 r7;by_cases h2:P.length<2
 ·have h2I:(P.length:Int)<2:=by omega
  have hz:Hid (Z={cmd0 with kind:=k}):=by show _=_;rw[HZ1.out,if_pos (.inl h2)]
  clear h2 HZ1;go_wp2_with fail;refine bodyPost_ret (results_cellA rfl rfl (load_cmd (blk8 HR6.out _ _ _ _ _ _ _ _))) rfl ?_;rw[hz.out];exact guess_fin (c:={cmd0 with kind:=k}) HR6.out (Nat.le_refl _) HB6.out (EdgesR.nil _) (IntsR.nil _) (fun g e=>e.elim (fun e=>by cases e) (fun e=>by cases e))
 have h2I:¬(P.length:Int)<2:=by omega
 by_cases h3:k<0
 ·have hz:Hid (Z={cmd0 with kind:=k}):=by show _=_;rw[HZ1.out,if_pos (.inr h3)]
  clear h2 HZ1;go_wp2_with fail;refine bodyPost_ret (results_cellA rfl rfl (load_cmd (blk8 HR6.out _ _ _ _ _ _ _ _))) rfl ?_;rw[hz.out];exact guess_fin (c:={cmd0 with kind:=k}) HR6.out (Nat.le_refl _) HB6.out (EdgesR.nil _) (IntsR.nil _) (fun g e=>e.elim (fun e=>by cases e) (fun e=>by cases e))
 obtain⟨kn,hkn⟩:∃kn:Nat,k=(kn:Int):=⟨k.toNat,by omega⟩;have hk9:kn<9:=by have:=HKL.out;omega
 subst hkn;obtain⟨b',off',eb,hSb,hP1⟩:=HST6.out.at (k:=1) (by omega);injection eb with eb
 injection eb with eb1 eb2
 subst eb1 eb2;have n1:(1:Int)<(P.length:Int):=by omega
 have HZ2:=hid (HZ1.out.trans (if_neg (by omega)));have fc1:=HC6.out.frozen 1;clear HZ1;go_upto_region 7 with fail;have hC7:=HC6.out.set 1 (.string (str (P[1]?.getD [])));simp only[xM,xJ,xK]at hC7;have HC7:=hid hC7;have HR7:=hid (HR6.out.other (g:=Cb) (by have:=HSC.out;omega) 1 (.string (str (P[1]?.getD []))));have HL7:=hid (HL6.out.other (g:=Cb) (by have:=HSC.out;omega) 1 (.string (str (P[1]?.getD []))));have HST7:=hid (HST6.out.put (g:=Cb) (fun e=>by injection e with e;have e':Sb=Cb:=e;have:=HSC.out.1;omega) (subX_set W6 Cb 1 (.string (str (P[1]?.getD [])))));have HB7:=hid (HB6.out.setCell (p:=⟨Cb,1,none⟩) (by have:=HSC.out;show _≤Cb;omega) (.string (str (P[1]?.getD []))))
 generalize W6.setCell ⟨Cb,1,none⟩ (.string (str (P[1]?.getD [])))=W7 at*
 generalize hnm:P[1]?.getD []=nm at*
 clear hC7 hnm c0 c1 c2 c3 c4 c5 c6 c7 lc fc1 ll l0 lr r0 r1 r2 r3 r4 r5 r6 r7 g0 g1 g2 g3 g4 g5 g6 g7 HC6 HR6 HL6 HST6 HB6 hSb hP1;have c0:=HC7.out.cell 0;have c1:=HC7.out.cell 1;have c2:=HC7.out.cell 2;have c3:=HC7.out.cell 3;have c4:=HC7.out.cell 4;have c5:=HC7.out.cell 5;have c6:=HC7.out.cell 6;have c7:=HC7.out.cell 7;have lc:=HC7.out.lt;have fc0:=HC7.out.frozen 0;have fc1:=HC7.out.frozen 1;have fc2:=HC7.out.frozen 2;have fc3:=HC7.out.frozen 3;have fc4:=HC7.out.frozen 4;have fc5:=HC7.out.frozen 5;have fc6:=HC7.out.frozen 6;have fc7:=HC7.out.frozen 7;have ll:=HL7.out.lt;have l0:=HL7.out.cell 0
 have lr:=HR7.out.lt;have r0:=HR7.out.cell 0;have r1:=HR7.out.cell 1;have r2:=HR7.out.cell 2;have r3:=HR7.out.cell 3;have r4:=HR7.out.cell 4;have r5:=HR7.out.cell 5;have r6:=HR7.out.cell 6;have r7:=HR7.out.cell 7;have g0:=HR7.out.frozen 0;have g1:=HR7.out.frozen 1;have g2:=HR7.out.frozen 2;have g3:=HR7.out.frozen 3;have g4:=HR7.out.frozen 4;have g5:=HR7.out.frozen 5;have g6:=HR7.out.frozen 6;have g7:=HR7.out.frozen 7;simp only[xG,xH,xI]at c0 c1 c2 c3 c4 c5 c6 c7 l0 r0 r1 r2 r3 r4 r5 r6 r7;have hcR:w.heap.size≠Cb:=by have:=HSC.out;omega
 have HCR:=hid hcR;have hSb7:Sb<W7.heap.size:=by have:=HSC.out.1;omega
 have HPN:Hid (P.length≤4097):=by
  show _≤_;have h1:=parts_len t;have h2:=List.count_le_length (l:=t) (a:=32);rw[HP.out]at h1;have:=HLT.out;omega
 have HPX:Hid (∀ x∈P,x.length≤281474976710656):=fun x hx=>by
  have:=part_len t x (by rw[HP.out];exact hx);have:=HLT.out;omega
 have hkc:kn=0∨kn=1∨kn=2∨kn=3∨kn=4∨kn=5∨kn=6∨kn=7∨kn=8:=by omega
 clear hk9 hcR;have hkk:=HKK.out;clear h3;rcases hkc with rfl|rfl|rfl|rfl|rfl|rfl|rfl|rfl|rfl
 ·clear hkk
  by_cases h22:P.length=2
  ·have hz:Hid (Z={cmd0 with kind:=0,name:=nm,g:=grOf (joinB (P.drop 2))}):=HZ2.out
   clear HZ2;have h2J:(2:Int)≤(P.length:Int):=by omega
   have HJ:=hid (c_JoinS W7 (show StsR W7 (.slice (some ⟨Sb,0,none⟩) 0 0) (P.drop 2)from StsR.zero (by rw[← List.length_eq_zero_iff,List.length_drop];omega)) (by rw[List.length_drop];have:=HPN.out;omega) (by have h1:=joinB_drop 2 P;have h2:=joinB_parts t;rw[HP.out]at h2;rw[h2]at h1;have:=HLT.out;omega));generalize joinB (P.drop 2)=jt at*
   go_wp2_with fail;refine HJ.out.mono ?_;rintro e w8 ⟨rfl,hB8⟩;have HB8:=hid (up HB7.out hB8);have HC8:=hid (HC7.out.below hB8);have HR8:=hid (HR7.out.below hB8);clear c0 c1 c2 c3 c4 c5 c6 c7 lc fc0 fc1 fc2 fc3 fc4 fc5 fc6 fc7 ll l0 lr r0 r1 r2 r3 r4 r5 r6 r7 g0 g1 g2 g3 g4 g5 g6 g7;clear hB8 HC7 HR7 HL7 HST7 HB7 HJ;dsimp only;go_wp2_with fail;refine(n_ReadGraphF jt w8 (HE.out.below HB8.out).env).mono ?_;rintro e w9 ⟨gv,rfl,hgr,hfe,hB9⟩;have HG:Hid (GrR w9 gv (grOf jt)):=hgr;clear hgr;generalize (tableP wGraph 45 true (opened (scanR jt))).2.1=z1 at*
   generalize (tableP wGraph 45 true (opened (scanR jt))).2.2=z2 at*
   obtain⟨ev,rfl,he⟩:=HG.out;obtain⟨ea,ec,rfl,_⟩:=id he;have HEV:=hid he;have HEF:Hid (∀ g,(Value.slice ea (grOf jt).es.length ec).ownBlock=some g→w.heap.size<g):=fun g e=>by
    have:=hfe _ _ g rfl e;have:=HR8.out.lt;omega
   clear hfe;generalize grOf jt=g at*
   have HB9:=hid (up HB8.out hB9);have HC9:=hid (HC8.out.below hB9);have HR9:=hid (HR8.out.below hB9);clear hB9 HC8 HR8 HB8 HG he;have c0:=HC9.out.cell 0;have c1:=HC9.out.cell 1;have c2:=HC9.out.cell 2;have c3:=HC9.out.cell 3;have c4:=HC9.out.cell 4;have c5:=HC9.out.cell 5;have c6:=HC9.out.cell 6;have c7:=HC9.out.cell 7;have lc:=HC9.out.lt;have fc0:=HC9.out.frozen 0;have fc1:=HC9.out.frozen 1;have fc2:=HC9.out.frozen 2;have fc3:=HC9.out.frozen 3;have fc4:=HC9.out.frozen 4;have fc5:=HC9.out.frozen 5;have fc6:=HC9.out.frozen 6;have fc7:=HC9.out.frozen 7;have lr:=HR9.out.lt;have r0:=HR9.out.cell 0
   have r1:=HR9.out.cell 1;have r2:=HR9.out.cell 2;have r3:=HR9.out.cell 3;have r4:=HR9.out.cell 4;have r5:=HR9.out.cell 5;have r6:=HR9.out.cell 6;have r7:=HR9.out.cell 7;have g0:=HR9.out.frozen 0;have g1:=HR9.out.frozen 1;have g2:=HR9.out.frozen 2;have g3:=HR9.out.frozen 3;have g4:=HR9.out.frozen 4;have g5:=HR9.out.frozen 5;have g6:=HR9.out.frozen 6;have g7:=HR9.out.frozen 7;simp only[xG,xH,xI]at c0 c1 c2 c3 c4 c5 c6 c7 r0 r1 r2 r3 r4 r5 r6 r7;dsimp only;go_upto_region 21 with fail;have hC10:=((HC9.out.set 5 (.int .i64 g.n)).set 6 (.slice ea g.es.length ec));simp only[xM,xJ,xK]at hC10;have HC10:=hid hC10
   have HR10:=hid ((HR9.out.other HCR.out 5 (.int .i64 g.n)).other HCR.out 6 (.slice ea g.es.length ec));have HB10:=hid ((HB9.out.setCell (p:=⟨Cb,5,none⟩) (by have:=HSC.out;show _≤Cb;omega) (.int .i64 g.n)).setCell (p:=⟨Cb,6,none⟩) (by have:=HSC.out;show _≤Cb;omega) (.slice ea g.es.length ec));have HEV10:=hid (HEV.out.putC HC9.out ((subX_set _ Cb 5 (.int .i64 g.n)).trans (subX_set _ Cb 6 (.slice ea g.es.length ec))));generalize (w9.setCell ⟨Cb,5,none⟩ (.int .i64 g.n)).setCell ⟨Cb,6,none⟩ (.slice ea g.es.length ec)=W10 at*
   clear hC10 HC9 HR9 HB9;clear c0 c1 c2 c3 c4 c5 c6 c7 lc fc0 fc1 fc2 fc3 fc4 fc5 fc6 fc7 lr r0 r1 r2 r3 r4 r5 r6 r7 g0 g1 g2 g3 g4 g5 g6 g7;have c0:=HC10.out.cell 0;have c1:=HC10.out.cell 1;have c2:=HC10.out.cell 2;have c3:=HC10.out.cell 3;have c4:=HC10.out.cell 4;have c5:=HC10.out.cell 5;have c6:=HC10.out.cell 6;have c7:=HC10.out.cell 7;have lc:=HC10.out.lt;have fc0:=HC10.out.frozen 0;have fc1:=HC10.out.frozen 1;have fc2:=HC10.out.frozen 2;have fc3:=HC10.out.frozen 3;have fc4:=HC10.out.frozen 4;have fc5:=HC10.out.frozen 5;have fc6:=HC10.out.frozen 6;have fc7:=HC10.out.frozen 7;have lr:=HR10.out.lt
   have r0:=HR10.out.cell 0;have r1:=HR10.out.cell 1;have r2:=HR10.out.cell 2;have r3:=HR10.out.cell 3;have r4:=HR10.out.cell 4;have r5:=HR10.out.cell 5;have r6:=HR10.out.cell 6;have r7:=HR10.out.cell 7;have g0:=HR10.out.frozen 0;have g1:=HR10.out.frozen 1;have g2:=HR10.out.frozen 2;have g3:=HR10.out.frozen 3;have g4:=HR10.out.frozen 4;have g5:=HR10.out.frozen 5;have g6:=HR10.out.frozen 6;have g7:=HR10.out.frozen 7;simp only[xG,xH,xI]at c0 c1 c2 c3 c4 c5 c6 c7 r0 r1 r2 r3 r4 r5 r6 r7;go_wp2_with fail;refine bodyPost_ret (results_cellA rfl rfl (load_cmd (blk8 (HR10.out) _ _ _ _ _ _ _ _))) rfl ?_
   rw[hz.out];exact guess_fin (c:={cmd0 with kind:=0,name:=nm,g:=g}) (HR10.out) (Nat.le_refl _) (HB10.out) HEV10.out (IntsR.nil _) (fun g e=>e.elim (fun e=>HEF.out g e) (fun e=>by cases e))
  ·have hz:Hid (Z={cmd0 with kind:=0,name:=nm,g:=grOf (joinB (P.drop 2))}):=HZ2.out
   clear HZ2;have h2J:(2:Int)≤(P.length:Int):=by omega
   have HJ:=hid (c_JoinS W7 (HST7.out.drop (j:=2) (by omega)) (by rw[List.length_drop];have:=HPN.out;omega) (by have h1:=joinB_drop 2 P;have h2:=joinB_parts t;rw[HP.out]at h2;rw[h2]at h1;have:=HLT.out;omega));generalize joinB (P.drop 2)=jt at*
   go_wp2_with fail;refine HJ.out.mono ?_;rintro e w8 ⟨rfl,hB8⟩;have HB8:=hid (up HB7.out hB8);have HC8:=hid (HC7.out.below hB8);have HR8:=hid (HR7.out.below hB8);clear c0 c1 c2 c3 c4 c5 c6 c7 lc fc0 fc1 fc2 fc3 fc4 fc5 fc6 fc7 ll l0 lr r0 r1 r2 r3 r4 r5 r6 r7 g0 g1 g2 g3 g4 g5 g6 g7;clear hB8 HC7 HR7 HL7 HST7 HB7 HJ;dsimp only;go_wp2_with fail;refine(n_ReadGraphF jt w8 (HE.out.below HB8.out).env).mono ?_;rintro e w9 ⟨gv,rfl,hgr,hfe,hB9⟩;have HG:Hid (GrR w9 gv (grOf jt)):=hgr;clear hgr;generalize (tableP wGraph 45 true (opened (scanR jt))).2.1=z1 at*
   generalize (tableP wGraph 45 true (opened (scanR jt))).2.2=z2 at*
   obtain⟨ev,rfl,he⟩:=HG.out;obtain⟨ea,ec,rfl,_⟩:=id he;have HEV:=hid he;have HEF:Hid (∀ g,(Value.slice ea (grOf jt).es.length ec).ownBlock=some g→w.heap.size<g):=fun g e=>by
    have:=hfe _ _ g rfl e;have:=HR8.out.lt;omega
   clear hfe;generalize grOf jt=g at*
   have HB9:=hid (up HB8.out hB9);have HC9:=hid (HC8.out.below hB9);have HR9:=hid (HR8.out.below hB9);clear hB9 HC8 HR8 HB8 HG he;have c0:=HC9.out.cell 0;have c1:=HC9.out.cell 1;have c2:=HC9.out.cell 2;have c3:=HC9.out.cell 3;have c4:=HC9.out.cell 4;have c5:=HC9.out.cell 5;have c6:=HC9.out.cell 6;have c7:=HC9.out.cell 7;have lc:=HC9.out.lt;have fc0:=HC9.out.frozen 0;have fc1:=HC9.out.frozen 1;have fc2:=HC9.out.frozen 2;have fc3:=HC9.out.frozen 3;have fc4:=HC9.out.frozen 4;have fc5:=HC9.out.frozen 5;have fc6:=HC9.out.frozen 6;have fc7:=HC9.out.frozen 7;have lr:=HR9.out.lt;have r0:=HR9.out.cell 0
   have r1:=HR9.out.cell 1;have r2:=HR9.out.cell 2;have r3:=HR9.out.cell 3;have r4:=HR9.out.cell 4;have r5:=HR9.out.cell 5;have r6:=HR9.out.cell 6;have r7:=HR9.out.cell 7;have g0:=HR9.out.frozen 0;have g1:=HR9.out.frozen 1;have g2:=HR9.out.frozen 2;have g3:=HR9.out.frozen 3;have g4:=HR9.out.frozen 4;have g5:=HR9.out.frozen 5;have g6:=HR9.out.frozen 6;have g7:=HR9.out.frozen 7;simp only[xG,xH,xI]at c0 c1 c2 c3 c4 c5 c6 c7 r0 r1 r2 r3 r4 r5 r6 r7;dsimp only;go_upto_region 21 with fail;have hC10:=((HC9.out.set 5 (.int .i64 g.n)).set 6 (.slice ea g.es.length ec));simp only[xM,xJ,xK]at hC10;have HC10:=hid hC10
   have HR10:=hid ((HR9.out.other HCR.out 5 (.int .i64 g.n)).other HCR.out 6 (.slice ea g.es.length ec));have HB10:=hid ((HB9.out.setCell (p:=⟨Cb,5,none⟩) (by have:=HSC.out;show _≤Cb;omega) (.int .i64 g.n)).setCell (p:=⟨Cb,6,none⟩) (by have:=HSC.out;show _≤Cb;omega) (.slice ea g.es.length ec));have HEV10:=hid (HEV.out.putC HC9.out ((subX_set _ Cb 5 (.int .i64 g.n)).trans (subX_set _ Cb 6 (.slice ea g.es.length ec))));generalize (w9.setCell ⟨Cb,5,none⟩ (.int .i64 g.n)).setCell ⟨Cb,6,none⟩ (.slice ea g.es.length ec)=W10 at*
   clear hC10 HC9 HR9 HB9;clear c0 c1 c2 c3 c4 c5 c6 c7 lc fc0 fc1 fc2 fc3 fc4 fc5 fc6 fc7 lr r0 r1 r2 r3 r4 r5 r6 r7 g0 g1 g2 g3 g4 g5 g6 g7;have c0:=HC10.out.cell 0;have c1:=HC10.out.cell 1;have c2:=HC10.out.cell 2;have c3:=HC10.out.cell 3;have c4:=HC10.out.cell 4;have c5:=HC10.out.cell 5;have c6:=HC10.out.cell 6;have c7:=HC10.out.cell 7;have lc:=HC10.out.lt;have fc0:=HC10.out.frozen 0;have fc1:=HC10.out.frozen 1;have fc2:=HC10.out.frozen 2;have fc3:=HC10.out.frozen 3;have fc4:=HC10.out.frozen 4;have fc5:=HC10.out.frozen 5;have fc6:=HC10.out.frozen 6;have fc7:=HC10.out.frozen 7;have lr:=HR10.out.lt
   have r0:=HR10.out.cell 0;have r1:=HR10.out.cell 1;have r2:=HR10.out.cell 2;have r3:=HR10.out.cell 3;have r4:=HR10.out.cell 4;have r5:=HR10.out.cell 5;have r6:=HR10.out.cell 6;have r7:=HR10.out.cell 7;have g0:=HR10.out.frozen 0;have g1:=HR10.out.frozen 1;have g2:=HR10.out.frozen 2;have g3:=HR10.out.frozen 3;have g4:=HR10.out.frozen 4;have g5:=HR10.out.frozen 5;have g6:=HR10.out.frozen 6;have g7:=HR10.out.frozen 7;simp only[xG,xH,xI]at c0 c1 c2 c3 c4 c5 c6 c7 r0 r1 r2 r3 r4 r5 r6 r7;go_wp2_with fail;refine bodyPost_ret (results_cellA rfl rfl (load_cmd (blk8 (HR10.out) _ _ _ _ _ _ _ _))) rfl ?_
   rw[hz.out];exact guess_fin (c:={cmd0 with kind:=0,name:=nm,g:=g}) (HR10.out) (Nat.le_refl _) (HB10.out) HEV10.out (IntsR.nil _) (fun g e=>e.elim (fun e=>HEF.out g e) (fun e=>by cases e))
 ·exact absurd hkk (by decide)
 ·clear hkk
  by_cases h22:P.length=2
  ·have hz:Hid (Z={cmd0 with kind:=2,name:=nm,vals:=(P.drop 2).map atoiV}):=HZ2.out
   have h2J:(2:Int)≤(P.length:Int):=by omega
   have HIN:=hid (s_ints (P.drop 2) (.slice (some ⟨Sb,0,none⟩) 0 0) W7 (HE.out.below HB7.out) (StsR.zero (by rw[← List.length_eq_zero_iff,List.length_drop];omega)) (by rw[List.length_drop];have:=HPN.out;omega) (fun x hx=>HPX.out x (List.mem_of_mem_drop hx)));clear HZ2;generalize (P.drop 2).map atoiV=vs at*
   go_wp2_with fail;refine HIN.out.mono ?_;rintro e w8 ⟨va,vc,rfl,hv8,hf8,hB8⟩;have HV8:=hid hv8;have HVF:Hid (∀ g,(Value.slice va vs.length vc).ownBlock=some g→W7.heap.size≤g):=hf8;have HB8:=hid (up HB7.out hB8);have HC8:=hid (HC7.out.below hB8);have HR8:=hid (HR7.out.below hB8);have hW7:Cb<W7.heap.size∧w.heap.size<W7.heap.size:=⟨lc,lr⟩;have HW7:=hid hW7;clear c0 c1 c2 c3 c4 c5 c6 c7 lc fc0 fc1 fc2 fc3 fc4 fc5 fc6 fc7 ll l0 lr r0 r1 r2 r3 r4 r5 r6 r7 g0 g1 g2 g3 g4 g5 g6 g7;clear hB8 hv8 hf8 HC7 HR7 HL7 HST7 HB7 HIN hW7;have c0:=HC8.out.cell 0;have c1:=HC8.out.cell 1;have c2:=HC8.out.cell 2;have c3:=HC8.out.cell 3
   have c4:=HC8.out.cell 4;have c5:=HC8.out.cell 5;have c6:=HC8.out.cell 6;have c7:=HC8.out.cell 7;have lc:=HC8.out.lt;have fc0:=HC8.out.frozen 0;have fc1:=HC8.out.frozen 1;have fc2:=HC8.out.frozen 2;have fc3:=HC8.out.frozen 3;have fc4:=HC8.out.frozen 4;have fc5:=HC8.out.frozen 5;have fc6:=HC8.out.frozen 6;have fc7:=HC8.out.frozen 7;have lr:=HR8.out.lt;have r0:=HR8.out.cell 0;have r1:=HR8.out.cell 1;have r2:=HR8.out.cell 2;have r3:=HR8.out.cell 3;have r4:=HR8.out.cell 4;have r5:=HR8.out.cell 5;have r6:=HR8.out.cell 6;have r7:=HR8.out.cell 7;have g0:=HR8.out.frozen 0;have g1:=HR8.out.frozen 1;have g2:=HR8.out.frozen 2
   have g3:=HR8.out.frozen 3;have g4:=HR8.out.frozen 4;have g5:=HR8.out.frozen 5;have g6:=HR8.out.frozen 6;have g7:=HR8.out.frozen 7;simp only[xG,xH,xI]at c0 c1 c2 c3 c4 c5 c6 c7 r0 r1 r2 r3 r4 r5 r6 r7;dsimp only;go_upto_region 21 with fail;have hC10:=(HC8.out.set 7 (.slice va vs.length vc));simp only[xM,xJ,xK]at hC10;have HC10:=hid hC10;have HR10:=hid (HR8.out.other HCR.out 7 (.slice va vs.length vc));have HB10:=hid (HB8.out.setCell (p:=⟨Cb,7,none⟩) (by have:=HSC.out;show _≤Cb;omega) (.slice va vs.length vc));have HV10:=hid (HV8.out.putF (g:=Cb) (fun e=>by have:=HVF.out _ e;have:=HW7.out.1;omega) (subX_set _ Cb 7 (.slice va vs.length vc)))
   generalize w8.setCell ⟨Cb,7,none⟩ (.slice va vs.length vc)=W10 at*
   clear hC10 HC8 HR8 HB8;clear c0 c1 c2 c3 c4 c5 c6 c7 lc fc0 fc1 fc2 fc3 fc4 fc5 fc6 fc7 lr r0 r1 r2 r3 r4 r5 r6 r7 g0 g1 g2 g3 g4 g5 g6 g7;have c0:=HC10.out.cell 0;have c1:=HC10.out.cell 1;have c2:=HC10.out.cell 2;have c3:=HC10.out.cell 3;have c4:=HC10.out.cell 4;have c5:=HC10.out.cell 5;have c6:=HC10.out.cell 6;have c7:=HC10.out.cell 7;have lc:=HC10.out.lt;have fc0:=HC10.out.frozen 0;have fc1:=HC10.out.frozen 1;have fc2:=HC10.out.frozen 2;have fc3:=HC10.out.frozen 3;have fc4:=HC10.out.frozen 4;have fc5:=HC10.out.frozen 5;have fc6:=HC10.out.frozen 6;have fc7:=HC10.out.frozen 7;have lr:=HR10.out.lt
   have r0:=HR10.out.cell 0;have r1:=HR10.out.cell 1;have r2:=HR10.out.cell 2;have r3:=HR10.out.cell 3;have r4:=HR10.out.cell 4;have r5:=HR10.out.cell 5;have r6:=HR10.out.cell 6;have r7:=HR10.out.cell 7;have g0:=HR10.out.frozen 0;have g1:=HR10.out.frozen 1;have g2:=HR10.out.frozen 2;have g3:=HR10.out.frozen 3;have g4:=HR10.out.frozen 4;have g5:=HR10.out.frozen 5;have g6:=HR10.out.frozen 6;have g7:=HR10.out.frozen 7;simp only[xG,xH,xI]at c0 c1 c2 c3 c4 c5 c6 c7 r0 r1 r2 r3 r4 r5 r6 r7;go_wp2_with fail;refine bodyPost_ret (results_cellA rfl rfl (load_cmd (blk8 (HR10.out) _ _ _ _ _ _ _ _))) rfl ?_
   rw[hz.out];exact guess_fin (c:={cmd0 with kind:=2,name:=nm,vals:=vs}) (HR10.out) (Nat.le_refl _) (HB10.out) (EdgesR.nil _) HV10.out (fun g e=>e.elim (fun e=>by cases e) (fun e=>by have:=HVF.out g e;have:=HW7.out.2;omega))
  ·have hz:Hid (Z={cmd0 with kind:=2,name:=nm,vals:=(P.drop 2).map atoiV}):=HZ2.out
   have h2J:(2:Int)≤(P.length:Int):=by omega
   have HIN:=hid (s_ints (P.drop 2) (.slice (some ⟨Sb,2,none⟩) (P.length-2) (P.length-2)) W7 (HE.out.below HB7.out) (by simpa using HST7.out.drop (j:=2) (by omega)) (by rw[List.length_drop];have:=HPN.out;omega) (fun x hx=>HPX.out x (List.mem_of_mem_drop hx)));clear HZ2;generalize (P.drop 2).map atoiV=vs at*
   go_wp2_with fail;refine HIN.out.mono ?_;rintro e w8 ⟨va,vc,rfl,hv8,hf8,hB8⟩;have HV8:=hid hv8;have HVF:Hid (∀ g,(Value.slice va vs.length vc).ownBlock=some g→W7.heap.size≤g):=hf8;have HB8:=hid (up HB7.out hB8);have HC8:=hid (HC7.out.below hB8);have HR8:=hid (HR7.out.below hB8);have hW7:Cb<W7.heap.size∧w.heap.size<W7.heap.size:=⟨lc,lr⟩;have HW7:=hid hW7;clear c0 c1 c2 c3 c4 c5 c6 c7 lc fc0 fc1 fc2 fc3 fc4 fc5 fc6 fc7 ll l0 lr r0 r1 r2 r3 r4 r5 r6 r7 g0 g1 g2 g3 g4 g5 g6 g7;clear hB8 hv8 hf8 HC7 HR7 HL7 HST7 HB7 HIN hW7;have c0:=HC8.out.cell 0;have c1:=HC8.out.cell 1;have c2:=HC8.out.cell 2;have c3:=HC8.out.cell 3
   have c4:=HC8.out.cell 4;have c5:=HC8.out.cell 5;have c6:=HC8.out.cell 6;have c7:=HC8.out.cell 7;have lc:=HC8.out.lt;have fc0:=HC8.out.frozen 0;have fc1:=HC8.out.frozen 1;have fc2:=HC8.out.frozen 2;have fc3:=HC8.out.frozen 3;have fc4:=HC8.out.frozen 4;have fc5:=HC8.out.frozen 5;have fc6:=HC8.out.frozen 6;have fc7:=HC8.out.frozen 7;have lr:=HR8.out.lt;have r0:=HR8.out.cell 0;have r1:=HR8.out.cell 1;have r2:=HR8.out.cell 2;have r3:=HR8.out.cell 3;have r4:=HR8.out.cell 4;have r5:=HR8.out.cell 5;have r6:=HR8.out.cell 6;have r7:=HR8.out.cell 7;have g0:=HR8.out.frozen 0;have g1:=HR8.out.frozen 1;have g2:=HR8.out.frozen 2
   have g3:=HR8.out.frozen 3;have g4:=HR8.out.frozen 4;have g5:=HR8.out.frozen 5;have g6:=HR8.out.frozen 6;have g7:=HR8.out.frozen 7;simp only[xG,xH,xI]at c0 c1 c2 c3 c4 c5 c6 c7 r0 r1 r2 r3 r4 r5 r6 r7;dsimp only;go_upto_region 21 with fail;have hC10:=(HC8.out.set 7 (.slice va vs.length vc));simp only[xM,xJ,xK]at hC10;have HC10:=hid hC10;have HR10:=hid (HR8.out.other HCR.out 7 (.slice va vs.length vc));have HB10:=hid (HB8.out.setCell (p:=⟨Cb,7,none⟩) (by have:=HSC.out;show _≤Cb;omega) (.slice va vs.length vc));have HV10:=hid (HV8.out.putF (g:=Cb) (fun e=>by have:=HVF.out _ e;have:=HW7.out.1;omega) (subX_set _ Cb 7 (.slice va vs.length vc)))
   generalize w8.setCell ⟨Cb,7,none⟩ (.slice va vs.length vc)=W10 at*
   clear hC10 HC8 HR8 HB8;clear c0 c1 c2 c3 c4 c5 c6 c7 lc fc0 fc1 fc2 fc3 fc4 fc5 fc6 fc7 lr r0 r1 r2 r3 r4 r5 r6 r7 g0 g1 g2 g3 g4 g5 g6 g7;have c0:=HC10.out.cell 0;have c1:=HC10.out.cell 1;have c2:=HC10.out.cell 2;have c3:=HC10.out.cell 3;have c4:=HC10.out.cell 4;have c5:=HC10.out.cell 5;have c6:=HC10.out.cell 6;have c7:=HC10.out.cell 7;have lc:=HC10.out.lt;have fc0:=HC10.out.frozen 0;have fc1:=HC10.out.frozen 1;have fc2:=HC10.out.frozen 2;have fc3:=HC10.out.frozen 3;have fc4:=HC10.out.frozen 4;have fc5:=HC10.out.frozen 5;have fc6:=HC10.out.frozen 6;have fc7:=HC10.out.frozen 7;have lr:=HR10.out.lt
   have r0:=HR10.out.cell 0;have r1:=HR10.out.cell 1;have r2:=HR10.out.cell 2;have r3:=HR10.out.cell 3;have r4:=HR10.out.cell 4;have r5:=HR10.out.cell 5;have r6:=HR10.out.cell 6;have r7:=HR10.out.cell 7;have g0:=HR10.out.frozen 0;have g1:=HR10.out.frozen 1;have g2:=HR10.out.frozen 2;have g3:=HR10.out.frozen 3;have g4:=HR10.out.frozen 4;have g5:=HR10.out.frozen 5;have g6:=HR10.out.frozen 6;have g7:=HR10.out.frozen 7;simp only[xG,xH,xI]at c0 c1 c2 c3 c4 c5 c6 c7 r0 r1 r2 r3 r4 r5 r6 r7;go_wp2_with fail;refine bodyPost_ret (results_cellA rfl rfl (load_cmd (blk8 (HR10.out) _ _ _ _ _ _ _ _))) rfl ?_
   rw[hz.out];exact guess_fin (c:={cmd0 with kind:=2,name:=nm,vals:=vs}) (HR10.out) (Nat.le_refl _) (HB10.out) (EdgesR.nil _) HV10.out (fun g e=>e.elim (fun e=>by cases e) (fun e=>by have:=HVF.out g e;have:=HW7.out.2;omega))
 ·exact absurd hkk (by decide)
 ·exact absurd hkk (by decide)
 ·exact absurd hkk (by decide)
 ·exact absurd hkk (by decide)
 ·exact absurd hkk (by decide)
 ·exact absurd hkk (by decide)
end Go.Proofs.YtclgllmipcbagaaGreatDoor
