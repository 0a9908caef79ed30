/-
  Parts of the proof: XU4D XTc XTd XU5
-/
import Derived.Test.YtclgllmipcbagaaGreatDoorBk24
import Derived.Test.YtclgllmipcbagaaGreatDoorBk12
import Derived.Test.YtclgllmipcbagaaGreatDoorBk23
import Derived.Test.YtclgllmipcbagaaGreatDoorBk19
import Derived.Test.YtclgllmipcbagaaGreatDoorBk25
import Derived.Test.YtclgllmipcbagaaGreatDoorBk26
import Derived.Test.YtclgllmipcbagaaGreatDoorBk27
namespace Go.Proofs.YtclgllmipcbagaaGreatDoor
open Go.RowKit
set_option linter.unusedVariables false
set_option linter.unusedSimpArgs false
set_option maxRecDepth 100000
set_option maxHeartbeats 16000000
theorem s_guessedD (t:List UInt8)(w:World)(hE:EnvS w)(hl:t.length≤4096)(hkk:kIx ((parts32 t)[0]?.getD [])<0∨6≤kIx ((parts32 t)[0]?.getD [])):Calls Tryz.prog 70 #[.string (str t)] w (RetCmd (guessP t) w):=by
 obtain⟨Z,HZ⟩:∃Z,Hid (Z=guessP t):=⟨_,rfl⟩;rw[← HZ.out];have HE:=hid hE;have HKK:=hid hkk;clear hkk;have HLT:=hid hl;clear hE;have hmf:∀(fn:Fn) (first cap:Array Value) (w:World),(Instr.makeFunc fn first cap).run Tryz.prog w= .ok (.func fn first cap) w:=fun _ _ _ _=>rfl;go_enter Tryz.func70,Tryz.ntmps70;go_upto_region 1 with fail;have HR:=hid (Blk.new w #[.int .i64 0,.string ⟨#[]⟩,.string ⟨#[]⟩,.string ⟨#[]⟩,.int .i64 0,.int .i64 0,.slice none 0 0,.slice none 0 0] 31);have HB0:Hid (Below w.heap.size w (w.alloc (.cells #[.int .i64 0,.string ⟨#[]⟩,.string ⟨#[]⟩,.string ⟨#[]⟩,.int .i64 0,.int .i64 0,.slice none 0 0,.slice none 0 0] 31))):=by show Below _ _ _;go_grown
 generalize w.alloc (.cells #[.int .i64 0,.string ⟨#[]⟩,.string ⟨#[]⟩,.string ⟨#[]⟩,.int .i64 0,.int .i64 0,.slice none 0 0,.slice none 0 0] 31)=W0 at*
 obtain⟨m,hm⟩:=(HE.out.below HB0.out).mx;have HSP:=hid (c_Split t m W0 (by omega) hm);have HPL:=hid (parts32_ne t);clear hm;generalize hP:parts32 t=P at*
 have HP:=hid hP;clear hP;go_wp2_with fail;refine HSP.out.mono ?_;rintro e w1 ⟨rfl,hw1⟩;have hB1:Below W0.heap.size W0 w1:=by rw[hw1];go_grown
 have HST:Hid (StsR w1 (.slice (some ⟨W0.heap.size,0,none⟩) P.length P.length) P):=by
  refine⟨_,_,rfl,Nat.le_refl _,?_,.inr ⟨W0.heap.size,0,rfl,by rw[hw1];simp,fun i hi=> ?_⟩⟩
  ·have:=parts_len t
   have h2:=List.count_le_length (l:=t) (a:=32);rw[HP.out]at this;omega
  ·rw[hw1,Nat.zero_add,(Blk.new W0 _ _).cell i,List.getElem?_toArray]
 have HB1:=hid (up HB0.out hB1);have HR1:=hid (HR.out.below hB1);clear hB1 hw1 HSP HR HB0;generalize W0.heap.size=Sb at*
 dsimp only;go_upto_region 2 with fail;have HL:=hid (Blk.new w1 #[.slice (some ⟨Sb,0,none⟩) P.length P.length] 103);have hB2:Below w1.heap.size w1 (w1.alloc (.cells #[.slice (some ⟨Sb,0,none⟩) P.length P.length] 103)):=by go_grown
 have HB2:=hid (up HB1.out hB2);have HST2:=hid (HST.out.below hB2);have HR2:=hid (HR1.out.below hB2);generalize w1.alloc (.cells #[.slice (some ⟨Sb,0,none⟩) P.length P.length] 103)=W2 at*
 generalize w1.heap.size=Lb at*
 clear hB2 HR1 HB1 HST;have hne:0<P.length:=by
  cases P with
  |nil=>exact absurd rfl HPL.out
  |cons x r=>simp
 go_upto_region 3 with (first
  |(go_at_call 54;refine(s_verbs _).mono ?_;rintro e w1 ⟨rfl,hB1⟩;have HB3:=hid (up HB2.out hB1);have HST3:=hid (HST2.out.below hB1);have HR3:=hid (HR2.out.below hB1);have HL3:=hid (HL.out.below hB1);clear hB1)
  |(refine wpList_storeS (o:=⟨none,_,_,_,_,_⟩) _ rfl _ _ 111 rfl (.pointer (some ⟨w1.heap.size,0,none⟩)) rfl (.agg verbsC) rfl _ (run_storeAt_new w1 111 _ verbsC size_verbs rfl one_verbs) ?_))
 have HA4:=hid (Blk.new w1 verbsC 111);have hB4:Below w1.heap.size w1 (w1.alloc (.cells verbsC 111)):=by go_grown
 have HB4:=hid (up HB3.out hB4);have HST4:=hid (HST3.out.below hB4);have HR4:=hid (HR3.out.below hB4);have HL4:=hid (HL3.out.below hB4);generalize w1.alloc (.cells verbsC 111)=W4 at*
 generalize w1.heap.size=A at*
 clear hB4 HB3 HST3 HR3 HL3 HB2 HST2 HR2 HL;obtain⟨b',off',eb,hSb,hP0⟩:=HST4.out.at hne;injection eb with eb
 injection eb with eb1 eb2
 subst eb1 eb2;have hL0:W4.cell? ⟨Lb,0,none⟩=some (.slice (some ⟨Sb,0,none⟩) P.length P.length):=(HL4.out.cell 0).trans rfl;have HIX:=hid (s_verbIx (P[0]?.getD []) A Lb Sb 0 P.length P.length W4 HA4.out hL0 HL4.out.lt (by simpa using hP0) hSb hne);clear hP0 hL0 hSb;generalize hk:kIx (P[0]?.getD [])=k at*
 have HK:=hid hk;clear hk;go_wp2_with fail;refine HIX.out.mono ?_;rintro e w5 ⟨rfl,hB5⟩;have HB5:=hid (up HB4.out hB5);have HST5:=hid (HST4.out.below hB5);have HR5:=hid (HR4.out.below hB5);have HL5:=hid (HL4.out.below hB5);clear hB5 HB4 HST4 HR4 HL4 HA4 HIX;dsimp only;go_upto_region 4 with fail;have HC6:=hid (Blk.new w5 #[.int .i64 k,.string ⟨#[]⟩,.string ⟨#[]⟩,.string ⟨#[]⟩,.int .i64 0,.int .i64 0,.slice none 0 0,.slice none 0 0] 31);have hB6:Below w5.heap.size w5 (w5.alloc (.cells #[.int .i64 k,.string ⟨#[]⟩,.string ⟨#[]⟩,.string ⟨#[]⟩,.int .i64 0,.int .i64 0,.slice none 0 0,.slice none 0 0] 31)):=by go_grown
 have HSC:Hid (Sb<w5.heap.size∧Lb<w5.heap.size∧w.heap.size<w5.heap.size):=⟨(by obtain⟨b',off',eb,h,_⟩:=HST5.out.at hne;injection eb with eb;injection eb with eb1 eb2;subst eb1;exact h),HL5.out.lt,HR5.out.lt⟩;have HB6:=hid (up HB5.out hB6);have HST6:=hid (HST5.out.below hB6);have HR6:=hid (HR5.out.below hB6);have HL6:=hid (HL5.out.below hB6);generalize w5.alloc (.cells #[.int .i64 k,.string ⟨#[]⟩,.string ⟨#[]⟩,.string ⟨#[]⟩,.int .i64 0,.int .i64 0,.slice none 0 0,.slice none 0 0] 31)=W6 at*
 generalize w5.heap.size=Cb at*
 clear hB6 HB5 HST5 HR5 HL5
 have HZ1:Hid (Z=if P.length<2∨k<0 then{cmd0 with kind:=k}else
  (if k=0 then{cmd0 with kind:=k,name:=P[1]?.getD [],g:=grOf (joinB (P.drop 2))}
  else if k=1 then(if 3<P.length then{cmd0 with kind:=k,name:=P[1]?.getD [],on:=P[3]?.getD [],vals:=(P.drop 4).map atoiV}else{cmd0 with kind:=k,name:=P[1]?.getD []})
  else if k=2 then{cmd0 with kind:=k,name:=P[1]?.getD [],vals:=(P.drop 2).map atoiV}
  else if k=3∨k=4 then{cmd0 with kind:=k,name:=P[1]?.getD [],q:=atoiV (P[P.length-1]?.getD [])}
  else if k=5 then(if 3<P.length then{cmd0 with kind:=k,name:=P[1]?.getD [],on:=P[2]?.getD [],other:=P[3]?.getD []}else{cmd0 with kind:=k,name:=P[1]?.getD []})
  else{cmd0 with kind:=k,name:=P[1]?.getD []})):=by
  show _=_
  rw[HZ.out]
  unfold guessP
  rw[HP.out]
  dsimp only
  rw[HK.out]
 have HKL:Hid (k≤8):=by show _≤_;rw[← HK.out];exact kIx_le _
 clear HZ;have lc:=HC6.out.lt;have c0:=HC6.out.cell 0;have c1:=HC6.out.cell 1;have c2:=HC6.out.cell 2;have c3:=HC6.out.cell 3;have c4:=HC6.out.cell 4;have c5:=HC6.out.cell 5;have c6:=HC6.out.cell 6;have c7:=HC6.out.cell 7;have ll:=HL6.out.lt;have l0:=HL6.out.cell 0;have lr:=HR6.out.lt;have r0:=HR6.out.cell 0;have r1:=HR6.out.cell 1;have r2:=HR6.out.cell 2;have r3:=HR6.out.cell 3;have r4:=HR6.out.cell 4;have r5:=HR6.out.cell 5;have r6:=HR6.out.cell 6;have r7:=HR6.out.cell 7;have g0:=HR6.out.frozen 0;have g1:=HR6.out.frozen 1;have g2:=HR6.out.frozen 2;have g3:=HR6.out.frozen 3;have g4:=HR6.out.frozen 4
 have g5:=HR6.out.frozen 5;have g6:=HR6.out.frozen 6;have g7:=HR6.out.frozen 7;simp only[xG,xH,xI]at c0 c1 c2 c3 c4 c5 c6 c7 l0 r0 r1 r2 r3 r4 r5 r6 r7;by_cases h2:P.length<2
 ·have h2I:(P.length:Int)<2:=by omega
  have hz:Hid (Z={cmd0 with kind:=k}):=by show _=_;rw[HZ1.out,if_pos (.inl h2)]
  clear h2 HZ1;go_wp2_with fail;refine bodyPost_ret (results_cellA rfl rfl (load_cmd (blk8 HR6.out _ _ _ _ _ _ _ _))) rfl ?_;rw[hz.out];exact guess_fin (c:={cmd0 with kind:=k}) HR6.out (Nat.le_refl _) HB6.out (EdgesR.nil _) (IntsR.nil _) (fun g e=>e.elim (fun e=>by cases e) (fun e=>by cases e))
 have h2I:¬(P.length:Int)<2:=by omega
 by_cases h3:k<0
 ·have hz:Hid (Z={cmd0 with kind:=k}):=by show _=_;rw[HZ1.out,if_pos (.inr h3)]
  clear h2 HZ1;go_wp2_with fail;refine bodyPost_ret (results_cellA rfl rfl (load_cmd (blk8 HR6.out _ _ _ _ _ _ _ _))) rfl ?_;rw[hz.out];exact guess_fin (c:={cmd0 with kind:=k}) HR6.out (Nat.le_refl _) HB6.out (EdgesR.nil _) (IntsR.nil _) (fun g e=>e.elim (fun e=>by cases e) (fun e=>by cases e))
 obtain⟨kn,hkn⟩:∃kn:Nat,k=(kn:Int):=⟨k.toNat,by omega⟩;have hk9:kn<9:=by have:=HKL.out;omega
 subst hkn;obtain⟨b',off',eb,hSb,hP1⟩:=HST6.out.at (k:=1) (by omega);injection eb with eb
 injection eb with eb1 eb2
 subst eb1 eb2;have n1:(1:Int)<(P.length:Int):=by omega
 have HZ2:=hid (HZ1.out.trans (if_neg (by omega)));have fc1:=HC6.out.frozen 1;clear HZ1;go_upto_region 7 with fail;have hC7:=HC6.out.set 1 (.string (str (P[1]?.getD [])));simp only[xM,xJ,xK]at hC7;have HC7:=hid hC7;have HR7:=hid (HR6.out.other (g:=Cb) (by have:=HSC.out;omega) 1 (.string (str (P[1]?.getD []))));have HL7:=hid (HL6.out.other (g:=Cb) (by have:=HSC.out;omega) 1 (.string (str (P[1]?.getD []))));have HST7:=hid (HST6.out.put (g:=Cb) (fun e=>by injection e with e;have e':Sb=Cb:=e;have:=HSC.out.1;omega) (subX_set W6 Cb 1 (.string (str (P[1]?.getD [])))));have HB7:=hid (HB6.out.setCell (p:=⟨Cb,1,none⟩) (by have:=HSC.out;show _≤Cb;omega) (.string (str (P[1]?.getD []))))
 generalize W6.setCell ⟨Cb,1,none⟩ (.string (str (P[1]?.getD [])))=W7 at*
 generalize hnm:P[1]?.getD []=nm at*
 clear hC7 hnm c0 c1 c2 c3 c4 c5 c6 c7 lc fc1 ll l0 lr r0 r1 r2 r3 r4 r5 r6 r7 g0 g1 g2 g3 g4 g5 g6 g7 HC6 HR6 HL6 HST6 HB6 hSb hP1;have c0:=HC7.out.cell 0;have c1:=HC7.out.cell 1;have c2:=HC7.out.cell 2;have c3:=HC7.out.cell 3;have c4:=HC7.out.cell 4;have c5:=HC7.out.cell 5;have c6:=HC7.out.cell 6;have c7:=HC7.out.cell 7;have lc:=HC7.out.lt;have fc0:=HC7.out.frozen 0;have fc1:=HC7.out.frozen 1;have fc2:=HC7.out.frozen 2;have fc3:=HC7.out.frozen 3;have fc4:=HC7.out.frozen 4;have fc5:=HC7.out.frozen 5;have fc6:=HC7.out.frozen 6;have fc7:=HC7.out.frozen 7;have ll:=HL7.out.lt;have l0:=HL7.out.cell 0
 have lr:=HR7.out.lt;have r0:=HR7.out.cell 0;have r1:=HR7.out.cell 1;have r2:=HR7.out.cell 2;have r3:=HR7.out.cell 3;have r4:=HR7.out.cell 4;have r5:=HR7.out.cell 5;have r6:=HR7.out.cell 6;have r7:=HR7.out.cell 7;have g0:=HR7.out.frozen 0;have g1:=HR7.out.frozen 1;have g2:=HR7.out.frozen 2;have g3:=HR7.out.frozen 3;have g4:=HR7.out.frozen 4;have g5:=HR7.out.frozen 5;have g6:=HR7.out.frozen 6;have g7:=HR7.out.frozen 7;simp only[xG,xH,xI]at c0 c1 c2 c3 c4 c5 c6 c7 l0 r0 r1 r2 r3 r4 r5 r6 r7;have hcR:w.heap.size≠Cb:=by have:=HSC.out;omega
 have HCR:=hid hcR;have hSb7:Sb<W7.heap.size:=by have:=HSC.out.1;omega
 have HPN:Hid (P.length≤4097):=by
  show _≤_;have h1:=parts_len t;have h2:=List.count_le_length (l:=t) (a:=32);rw[HP.out]at h1;have:=HLT.out;omega
 have HPX:Hid (∀ x∈P,x.length≤281474976710656):=fun x hx=>by
  have:=part_len t x (by rw[HP.out];exact hx);have:=HLT.out;omega
 have hkc:kn=0∨kn=1∨kn=2∨kn=3∨kn=4∨kn=5∨kn=6∨kn=7∨kn=8:=by omega
 clear hk9 hcR;have hkk:=HKK.out;clear h3;rcases hkc with rfl|rfl|rfl|rfl|rfl|rfl|rfl|rfl|rfl
 ·exact absurd hkk (by decide)
 ·exact absurd hkk (by decide)
 ·exact absurd hkk (by decide)
 ·exact absurd hkk (by decide)
 ·exact absurd hkk (by decide)
 ·exact absurd hkk (by decide)
 ·clear hkk
  have hz:Hid (Z={cmd0 with kind:=6,name:=nm}):=HZ2.out;clear HZ2;go_wp2_with fail;refine bodyPost_ret (results_cellA rfl rfl (load_cmd (blk8 (HR7.out) _ _ _ _ _ _ _ _))) rfl ?_;rw[hz.out];exact guess_fin (c:={cmd0 with kind:=6,name:=nm}) (HR7.out) (Nat.le_refl _) (HB7.out) (EdgesR.nil _) (IntsR.nil _) (fun g e=>e.elim (fun e=>by cases e) (fun e=>by cases e))
 ·clear hkk
  have hz:Hid (Z={cmd0 with kind:=7,name:=nm}):=HZ2.out;clear HZ2;go_wp2_with fail;refine bodyPost_ret (results_cellA rfl rfl (load_cmd (blk8 (HR7.out) _ _ _ _ _ _ _ _))) rfl ?_;rw[hz.out];exact guess_fin (c:={cmd0 with kind:=7,name:=nm}) (HR7.out) (Nat.le_refl _) (HB7.out) (EdgesR.nil _) (IntsR.nil _) (fun g e=>e.elim (fun e=>by cases e) (fun e=>by cases e))
 ·clear hkk
  have hz:Hid (Z={cmd0 with kind:=8,name:=nm}):=HZ2.out;clear HZ2;go_wp2_with fail;refine bodyPost_ret (results_cellA rfl rfl (load_cmd (blk8 (HR7.out) _ _ _ _ _ _ _ _))) rfl ?_;rw[hz.out];exact guess_fin (c:={cmd0 with kind:=8,name:=nm}) (HR7.out) (Nat.le_refl _) (HB7.out) (EdgesR.nil _) (IntsR.nil _) (fun g e=>e.elim (fun e=>by cases e) (fun e=>by cases e))
theorem intsT_chip:∀{l:List Int},(∀ x∈l,chipB x=true)→(intsT l).length≤9*l.length
 |[],_=>by simp[intsT]
 |x::l,h=>by
  have ih:=intsT_chip (l:=l) fun y hy=>h y (List.mem_cons_of_mem _ hy);have h1:=(itoa_chip (h x (List.mem_cons_self ..))).1;rw[intsT_cons];simp only[List.length_cons,List.length_append];omega
theorem s_listed (l:List Int)(v:Value)(w:World)(hE:Env w)(hl:IntsR w v l)(hc:∀x∈l,chipB x=true)(hn:l.length≤1000000):
 Calls Tryz.prog 108 #[v] w fun e w'=>e= .returned (.string (str (intsT l)))∧Below w.heap.size w w':=by
 obtain⟨Z,HZ⟩:∃Z,Hid (Z=intsT l):=⟨_,rfl⟩;rw[← HZ.out];have HL:=hid hl;have HE:=hid hE;have HC:=hid hc;obtain⟨a,cap,rfl,hcap,hcm,_⟩:=hl;clear hc hE;go_enter Tryz.func108,Tryz.ntmps108;go_upto_region 2 with fail;have HBD:=hid (Bld.fresh w);have HB:=hid ((Below.refl w.heap.size w).alloc (Nat.le_refl _) (.cells #[.pointer none,.slice none 0 0] 133));generalize hbb:w.heap.size=bb at*
 generalize w.alloc (.cells #[.pointer none,.slice none 0 0] 133)=W2 at*
 go_wp2_with fail;go_loopw [8] (fun i wr=>∃k:Nat,k≤l.length∧i= .int .i64 k∧Hid (Bld bb bb (intsT (l.take k)) wr)∧Hid (Below bb w wr)) (fun i _=>l.length-(intOf i).toNat);case atStart=>exact⟨0,Nat.zero_le _,rfl,HBD,HB⟩
 case round=>
  clear HBD HB;obtain⟨k,hk,rfl,HBD,HBW⟩:=hrel;have hBw:Below w.heap.size w wr:=by rw[hbb];exact HBW.out
  have HBR:=hid hBw;clear hBw;by_cases hlt:k<l.length
  ·have hlt':(k:Int)<(l.length:Int):=by omega
   have hk0:(0:Int)≤(k:Int):=by omega
   obtain⟨a',cap',ea,_,_,_,hc⟩:=HL.out.below HBR.out;injection ea with ea1 _ ea3
   subst ea1 ea3;obtain⟨b,off,rfl,hb,hc⟩:=hc.int (by omega);have c0:=hc k hlt;have HSN:=hid (intsT_snoc l k hlt);have HX:Hid (chipB (l[k]?.getD 0)=true):=HC.out _ (by rw[List.getElem?_eq_getElem hlt];exact List.getElem_mem hlt);have HLN:Hid ((intsT (l.take k)).length≤9*k):=by
    show _≤_;have:=intsT_chip (l:=l.take k) fun x hx=>HC.out x (List.mem_of_mem_take hx);rw[List.length_take]at this;omega
   clear hc;generalize l[k]?.getD 0=x at*
   obtain⟨h8,hx0,hx1⟩:=itoa_chip HX.out;go_wp2_with fail;refine(c_Itoa x (by omega) (by omega) wr (HE.out.below HBR.out)).mono ?_;rintro e w3 ⟨rfl,hB3⟩;have HB3:=hid (up HBR.out hB3);have HBD3:=hid (HBD.out.below hB3);clear hB3 c0 hb HBD HBW HBR;have z1:=str_size (Lib.itoa x);dsimp only;go_wp2_with fail;rw[str2b];refine(c_WriteString bb bb (intsT (l.take k)) (32::Lib.itoa x) w3 HBD3.out (by have:=HLN.out;omega) (by simp;omega)).mono ?_;rintro e w4 ⟨rv,rfl,hbd,hbw,_⟩;rw[← HSN.out]at hbd;have HBD4:=hid hbd;have hb3:Below bb w w3:=by rw[← hbb];exact HB3.out
   have HB4:=hid (hb3.trans hbw);clear hbd hbw hb3;dsimp only;go_wp2_with fail;go_roundw;case rel=>exact⟨k+1,by omega,by go_num,HBD4,HB4⟩
   case measure=>simp[intOf];omega
  ·obtain rfl:k=l.length:=by omega
   have hlt':¬(l.length:Int)<(l.length:Int):=by omega
   have hbd:=HBD.out;rw[List.take_length,←HZ.out]at hbd;have HBD2:=hid hbd;clear hbd HBD;go_wp2_with fail;refine(c_String bb bb _ wr HBD2.out).mono ?_;rintro e w5 ⟨rfl,hB5⟩;dsimp only;go_wp2_with fail;go_ret;exact⟨rfl,by rw[hbb];exact HBW.out.trans hB5⟩
theorem idx_w (k:Nat)(hk:k<9):∃b1 b2 b3 b4 b5 f,∀w:World,(Instr.index 111 verbsV (.int .i64 k)).run Tryz.prog w= .ok (.agg #[.string (str (verbsW[k]?.getD [])),.bool b1,.bool b2,.bool b3,.bool b4,.bool b5,.func f #[] #[]]) w:=
 match k,hk with
 |0,_=>⟨_,_,_,_,_,_,idx_v0⟩
 |1,_=>⟨_,_,_,_,_,_,idx_v1⟩
 |2,_=>⟨_,_,_,_,_,_,idx_v2⟩
 |3,_=>⟨_,_,_,_,_,_,idx_v3⟩
 |4,_=>⟨_,_,_,_,_,_,idx_v4⟩
 |5,_=>⟨_,_,_,_,_,_,idx_v5⟩
 |6,_=>⟨_,_,_,_,_,_,idx_v6⟩
 |7,_=>⟨_,_,_,_,_,_,idx_v7⟩
 |8,_=>⟨_,_,_,_,_,_,idx_v8⟩
theorem fld_word (s0:ByteArray)(b1 b2 b3 b4 b5:Bool)(f:Fn)(w:World):(Instr.field 110 (.agg #[.string s0,.bool b1,.bool b2,.bool b3,.bool b4,.bool b5,.func f #[] #[]]) 0).run Tryz.prog w= .ok (.string s0) w:=by kernel_rfl
theorem verbsW_len (k:Nat):(verbsW[k]?.getD []).length≤9:=by
 by_cases h:k<9
 ·revert h;revert k;decide
 ·rw[List.getElem?_eq_none (by simp[verbsW];omega)];simp
theorem str_b (h g:List UInt8):str h++({data:= #[32]}:ByteArray)++str g=str (h++32::g):=by
 apply ByteArray.ext;simp[str]
theorem str_on (h g r:List UInt8):str h++({data:= #[32,111,110,32]}:ByteArray)++str g++str r=str (h++32::(wOn++32::(g++r))):=by
 apply ByteArray.ext;simp[str,wOn]
theorem str_atT (h r:List UInt8):str h++({data:= #[32,97,116]}:ByteArray)++str r=str (h++32::(wAt++r)):=by
 apply ByteArray.ext;simp[str,wAt]
theorem str_bb (h g r:List UInt8):str h++({data:= #[32]}:ByteArray)++str g++({data:= #[32]}:ByteArray)++str r=str (h++32::(g++32::r)):=by
 apply ByteArray.ext;simp[str]
theorem str_two (h r:List UInt8):str h++str r=str (h++r):=by
 apply ByteArray.ext;simp[str]
theorem chip_of {l:List Int}(h:∀x∈l,-1048576≤x∧x≤1048576):∀x∈l,chipB x=true:=fun x hx=>by
 have:=h x hx;unfold chipB;simp only[Bool.and_eq_true,decide_eq_true_eq];exact this
theorem listed_one (q:Int)(w:World)(hE:Env w)(h0:0≤q)(h1:q<12):
 Calls Tryz.prog 108 #[.slice (some ⟨w.heap.size,0,none⟩) 1 1] (w.alloc (.cells #[.int .i64 q] 3)) fun e w'=>e= .returned (.string (str (intsT [q])))∧Below w.heap.size w w':=by
 have hB:Below w.heap.size w (w.alloc (.cells #[.int .i64 q] 3)):=by go_grown
 refine(s_listed [q] _ _ (hE.below hB) ⟨_,_,rfl,by simp,by omega,by simp,.inr ⟨_,0,rfl,by simp,fun i hi=> ?_⟩⟩ (fun x hx=> ?_) (by simp)).mono fun e w' h=>⟨h.1,up hB h.2⟩
 ·rw[Nat.zero_add,(Blk.new w _ _).cell i,List.getElem?_toArray];rfl
 ·rw[List.mem_singleton]at hx
  subst hx;unfold chipB;simp;omega
theorem s_text (c:Cmd)(cv:Value)(w:World)(hE:Env w)(hc:CmdR w cv c)(hr:rightErr c=0):
 Calls Tryz.prog 68 #[cv] w fun e w'=>e= .returned (.string (str (textOf c)))∧Below w.heap.size w w':=by
 obtain⟨k0,k8,hw,hn,hs⟩:=right_ok hr;obtain⟨w1,w2,w3⟩:=cwords_ok hw;obtain⟨n1,n2,n3⟩:=cnums_ok hn;obtain⟨s1,s2,s3,s4,s5,s6⟩:=cspare_ok hs;obtain⟨Z,HZ⟩:∃Z,Hid (Z=textOf c):=⟨_,rfl⟩;rw[← HZ.out];obtain⟨ev,vv,rfl,he,hv⟩:=hc;obtain⟨ea,ec,rfl,_⟩:=id he;obtain⟨va,vc,rfl,_⟩:=id hv;obtain⟨ck,cn,co,cp,cq,cg,cvl⟩:=c;dsimp only at*
 obtain⟨kn,rfl⟩:∃kn:Nat,ck=(kn:Int):=⟨ck.toNat,by omega⟩;have hk9:kn<9:=by omega
 have HN1:Hid (kn≤6→(str cn).toList.isEmpty=false∧cn.length≤24):=fun h=>by
  obtain⟨a1,a2,a3⟩:=wordErr_ok (w1 (by simp[kName];omega));exact⟨by rw[str_toList];simpa using a1,a3⟩
 have HN2:Hid (¬ kn≤6→cn=[]):=fun h=>s1 (by simp[kName];omega);have HO:Hid (kn=1∨kn=5→co.length≤24):=fun h=>(wordErr_ok (w2 (by simp[kOn];omega))).2.2;have HP:Hid (kn=5→cp.length≤24):=fun h=>(wordErr_ok (w3 (by simp[kOther];omega))).2.2;have HV:Hid (kn=1∨kn=2→cvl.length≤12∧∀x∈cvl,chipB x=true):=fun h=>⟨(n3 (by simp[kVals];omega)).2.1,chip_of (chips_in (n3 (by simp[kVals];omega)).2.2)⟩;have HQ:Hid (kn=3∨kn=4→0≤cq∧cq<12):=fun h=>n1 (by simp[kAt];omega);have HG:Hid (kn=0→(graphR cg).2.length≤1400):=fun h=>(graphR_ok (n2 (by omega))).2;have HEV:=hid he;have HVV:=hid hv;have HE:=hid hE;have HBK:=hid (Blk.new w #[.int .i64 kn,.string (str cn),.string (str co),.string (str cp),.int .i64 cq,.int .i64 cg.n,.slice ea cg.es.length ec,.slice va cvl.length vc] 31)
 have hB:Below w.heap.size w (w.alloc (.cells #[.int .i64 kn,.string (str cn),.string (str co),.string (str cp),.int .i64 cq,.int .i64 cg.n,.slice ea cg.es.length ec,.slice va cvl.length vc] 31)):=by go_grown
 have HB0:=hid hB;obtain⟨b1,b2,b3,b4,b5,f,hix⟩:=idx_w kn hk9;have HIX:=hid hix;have HWL:=hid (verbsW_len kn);clear k0 k8 hw hn hs w1 w2 w3 n1 n2 n3 s1 s2 s3 s4 s5 s6 hE he hv hB hix hr;generalize hwd:verbsW[kn]?.getD []=wd at*
 have HWD:=hid hwd;clear hwd;go_enter Tryz.func68,Tryz.ntmps68;go_upto_region 1 with fail;generalize w.alloc (.cells #[.int .i64 kn,.string (str cn),.string (str co),.string (str cp),.int .i64 cq,.int .i64 cg.n,.slice ea cg.es.length ec,.slice va cvl.length vc] 31)=W0 at*
 have lx:=HBK.out.lt;have x0:=HBK.out.cell 0;simp only[xG,xH,xI]at x0;let S:World→Prop:=fun w'=>Below W0.heap.size W0 w'
 (refine wp_region_pre 2 5 [1] [2,0,3,4] S (by kernel_rfl) (by kernel_rfl) (by intro _ _ d _ _ h;cases d<;>exact h) ?_;simp only[xA,xB,xC,xD,xE,xF]);(repeat ((refine' wpSeq_take rfl _ (by rfl) ?_ ?_;rotate_left;focus(intro w' hS;(try dsimp only at hS);skip;go_simp;(first|done|with_reducible rfl));(try go_frame));(try go_frame)));refine wpSeq_nil ⟨Below.drew (Below.refl _ _),?_⟩;(repeat ((refine' wpSeq_take rfl _ (by rfl) ?_ ?_;rotate_left;focus(intro w' hS;(try dsimp only at hS);have q0:w'.cell? ⟨w.heap.size,0,none⟩=some (.int .i64 kn):=(Below.cell hS (p:=⟨w.heap.size,0,none⟩) lx).trans x0;go_simp;(first|done|with_reducible rfl));(try go_frame));(try go_frame)))
 (refine wpSeq_call rfl (by rfl) (fun K hK=> ?_);go_simp;refine(s_verbs _).mono ?_;rintro e w4 ⟨rfl,hB4⟩;refine hK _ _ (up (Below.drew (Below.refl _ _)) hB4) ?_;clear hK K;(try go_frame));have HB4:Hid (Below W0.heap.size W0 w4):=up (Below.drew (Below.refl _ _)) hB4;clear hB4;(refine' wpSeq_take rfl _ (by rfl) ?_ ?_;rotate_left;focus(intro w' hS;(try dsimp only at hS);have i0:=HIX.out w';go_simp;(first|done|with_reducible rfl));(try go_frame));(refine' wpSeq_take rfl _ (by rfl) ?_ ?_;rotate_left;focus(intro w' hS;(try dsimp only at hS);have i1:=fld_word (str wd) b1 b2 b3 b4 b5 f w';go_simp;(first|done|with_reducible rfl));(try go_frame))
 refine wpSeq_nil ?_;clear S;have HBK4:=hid (HBK.out.below HB4.out);have HB5:=hid (up HB0.out HB4.out);clear HBK HB0 HB4 HIX lx x0;have lx:=HBK4.out.lt;have x0:=HBK4.out.cell 0;have x1:=HBK4.out.cell 1;have x2:=HBK4.out.cell 2;have x3:=HBK4.out.cell 3;have x4:=HBK4.out.cell 4;have x5:=HBK4.out.cell 5;have x6:=HBK4.out.cell 6;have x7:=HBK4.out.cell 7;simp only[xG,xH,xI]at x0 x1 x2 x3 x4 x5 x6 x7;have zw:=str_size wd;have zl:=HWL.out;by_cases hk6:kn≤6
 ·obtain⟨hne,hn24⟩:=HN1.out hk6
  have z1:=str_size cn;have z2:=str_spc cn;clear HN1 HN2;go_upto_region 4 with fail;rw[str_add];have hl34:(wd++32::cn).length≤34:=by simp;omega
  have zh:=str_size (wd++32::cn);generalize hh:wd++32::cn=hd at*
  have HH:=hid hh;clear hh hne z1 z2 zw zl;have hkc:kn=0∨kn=1∨kn=2∨kn=3∨kn=4∨kn=5∨kn=6:=by omega
  clear hk6 hk9;rcases hkc with rfl|rfl|rfl|rfl|rfl|rfl|rfl
  ·skip
   have hz:Hid (Z=hd++32::(graphR cg).2):=by show _=_;rw[HZ.out,←HH.out,←HWD.out];simp[textOf,verbsW]
   have HZ2:=hid hz.out;clear HZ hz;have HGC:=hid (n_Graph cg (.agg #[.int .i64 cg.n,.slice ea cg.es.length ec]) w4 ⟨_,rfl,HEV.out.below HB5.out⟩);have hzg:=HG.out rfl;have zg:=str_size (graphR cg).2;unfold limV at HGC;generalize (graphR cg).2=gt at*
   generalize (graphR cg).1=ge at*
   go_wp2_with fail;refine HGC.out.mono ?_;rintro e w5 ⟨rfl,hB5⟩;dsimp only;go_wp2_with fail;go_ret;exact⟨by rw[str_b,HZ2.out];rfl,up HB5.out hB5⟩
  ·skip
   have hz:Hid (Z=hd++32::(wOn++32::(co++intsT cvl))):=by show _=_;rw[HZ.out,←HH.out,←HWD.out];simp[textOf,verbsW]
   have HZ2:=hid hz.out;clear HZ hz;obtain⟨hv12,hvc⟩:=HV.out (.inl rfl);have ho24:=HO.out (.inl rfl);have HVC:=hid hvc;have hil:=intsT_chip hvc;have zi:=str_size (intsT cvl);have zo:=str_size co;clear hvc;go_upto_region 9 with fail;let S:World→Prop:=fun w'=>Below w4.heap.size w4 w'
   (refine wp_region_pre 2 8 [0,1,2,5] [3,4,6,7] S (by kernel_rfl) (by kernel_rfl) (by intro _ _ d _ _ h;cases d<;>exact h) ?_;simp only[xA,xB,xC,xD,xE,xF]);(repeat ((refine' wpSeq_take rfl _ (by rfl) ?_ ?_;rotate_left;focus(intro w' hS;(try dsimp only at hS);skip;go_simp;(first|done|with_reducible rfl));(try go_frame));(try go_frame)));(refine' wpSeq_take rfl _ (by rfl) ?_ ?_;rotate_left;focus(intro w' hS;(try dsimp only at hS);go_simp;rw[if_neg (by omega)]);(try go_frame));(repeat ((refine' wpSeq_take rfl _ (by rfl) ?_ ?_;rotate_left;focus(intro w' hS;(try dsimp only at hS);skip;go_simp;(first|done|with_reducible rfl));(try go_frame));(try go_frame)))
   refine wpSeq_nil ⟨Below.drew (Below.refl _ _),?_⟩;(repeat ((refine' wpSeq_take rfl _ (by rfl) ?_ ?_;rotate_left;focus(intro w' hS;(try dsimp only at hS);have q2:w'.cell? ⟨w.heap.size,2,none⟩=some (.string (str co)):=(Below.cell hS (p:=⟨w.heap.size,2,none⟩) lx).trans x2;go_simp;(first|done|with_reducible rfl));(try go_frame));(try go_frame)));(refine' wpSeq_take rfl _ (by rfl) ?_ ?_;rotate_left;focus(intro w' hS;(try dsimp only at hS);go_simp;rw[if_neg (by simp;omega)]);(try go_frame));(repeat ((refine' wpSeq_take rfl _ (by rfl) ?_ ?_;rotate_left;focus(intro w' hS;(try dsimp only at hS);have q6:w'.cell? ⟨w.heap.size,6,none⟩=some (.slice ea cg.es.length ec):=(Below.cell hS (p:=⟨w.heap.size,6,none⟩) lx).trans x6;have q7:w'.cell? ⟨w.heap.size,7,none⟩=some (.slice va cvl.length vc):=(Below.cell hS (p:=⟨w.heap.size,7,none⟩) lx).trans x7;go_simp;(first|done|with_reducible rfl));(try go_frame));(try go_frame)))
   (refine wpSeq_call rfl (by rfl) (fun K hK=> ?_);go_simp;refine((s_listed cvl (.slice va cvl.length vc) _ (HE.out.below (up HB5.out (Below.drew (Below.refl _ _)))) (HVV.out.below (up HB5.out (Below.drew (Below.refl _ _)))) HVC.out (by omega))).mono ?_;rintro e w5 ⟨rfl,hB5⟩;refine hK _ _ (up (Below.drew (Below.refl _ _)) hB5) ?_;clear hK K;(try go_frame));refine wpSeq_nil ?_;clear S;have HB6:=hid (up HB5.out (up (Below.drew (Below.refl _ _)) hB5));clear hB5;go_wp2_with fail;go_ret;exact⟨by rw[str_on,HZ2.out];rfl,HB6.out⟩
  ·skip
   have hz:Hid (Z=hd++intsT cvl):=by show _=_;rw[HZ.out,←HH.out,←HWD.out];simp[textOf,verbsW]
   have HZ2:=hid hz.out;clear HZ hz;obtain⟨hv12,hvc⟩:=HV.out (.inr rfl);have HLI:=hid (s_listed cvl (.slice va cvl.length vc) w4 (HE.out.below HB5.out) (HVV.out.below HB5.out) hvc (by omega));have hil:=intsT_chip hvc;have zi:=str_size (intsT cvl);clear hvc;go_wp2_with fail;refine HLI.out.mono ?_;rintro e w5 ⟨rfl,hB5⟩;dsimp only;go_wp2_with fail;go_ret;exact⟨by rw[str_two,HZ2.out];rfl,up HB5.out hB5⟩
  ·skip
   have hz:Hid (Z=hd++32::(wAt++intsT [cq])):=by show _=_;rw[HZ.out,←HH.out,←HWD.out];simp[textOf,verbsW]
   have HZ2:=hid hz.out;clear HZ hz;obtain⟨hq0,hq1⟩:=HQ.out (.inl rfl);have HLQ:=hid (listed_one cq w4 (HE.out.below HB5.out) hq0 hq1);have hil:=intsT_chip (l:=[cq]) (fun x hx=>by rw[List.mem_singleton]at hx;subst hx;unfold chipB;simp;omega);have zi:=str_size (intsT [cq]);rw[List.length_singleton]at hil;go_wp2_with fail;refine HLQ.out.mono ?_;rintro e w5 ⟨rfl,hB5⟩;have HB6:=hid (up HB5.out hB5);clear hB5 HLQ;generalize intsT [cq]=tq at*
   dsimp only;go_wp2_with fail;go_ret;exact⟨by rw[str_atT,HZ2.out];rfl,HB6.out⟩
  ·skip
   have hz:Hid (Z=hd++32::(wAt++intsT [cq])):=by show _=_;rw[HZ.out,←HH.out,←HWD.out];simp[textOf,verbsW]
   have HZ2:=hid hz.out;clear HZ hz;obtain⟨hq0,hq1⟩:=HQ.out (.inr rfl);have HLQ:=hid (listed_one cq w4 (HE.out.below HB5.out) hq0 hq1);have hil:=intsT_chip (l:=[cq]) (fun x hx=>by rw[List.mem_singleton]at hx;subst hx;unfold chipB;simp;omega);have zi:=str_size (intsT [cq]);rw[List.length_singleton]at hil;go_wp2_with fail;refine HLQ.out.mono ?_;rintro e w5 ⟨rfl,hB5⟩;have HB6:=hid (up HB5.out hB5);clear hB5 HLQ;generalize intsT [cq]=tq at*
   dsimp only;go_wp2_with fail;go_ret;exact⟨by rw[str_atT,HZ2.out];rfl,HB6.out⟩
  ·skip
   have hz:Hid (Z=hd++32::(co++32::cp)):=by show _=_;rw[HZ.out,←HH.out,←HWD.out];simp[textOf,verbsW]
   have HZ2:=hid hz.out;clear HZ hz;have ho24:=HO.out (.inr rfl);have hp24:=HP.out rfl;have zo:=str_size co;have zp:=str_size cp;go_wp2_with fail;go_ret;exact⟨by rw[str_bb,HZ2.out];rfl,HB5.out⟩
  ·skip
   have hz:Hid (Z=hd):=by show _=_;rw[HZ.out,←HH.out,←HWD.out];simp[textOf,verbsW]
   have HZ2:=hid hz.out;clear HZ hz;go_wp2_with fail;go_ret;exact⟨by rw[HZ2.out];rfl,HB5.out⟩
 ·obtain rfl:=HN2.out hk6
  have hkc:kn=7∨kn=8:=by omega
  clear hk6 hk9;have hne:(str ([]:List UInt8)).toList.isEmpty=true:=by rw[str_toList];rfl
  rcases hkc with rfl|rfl
  ·have hz:Hid (Z=wd):=by show _=_;rw[HZ.out,←HWD.out];simp[textOf,verbsW]
   go_wp2_with fail;go_ret;exact⟨by rw[hz.out];rfl,HB5.out⟩
  ·have hz:Hid (Z=wd):=by show _=_;rw[HZ.out,←HWD.out];simp[textOf,verbsW]
   go_wp2_with fail;go_ret;exact⟨by rw[hz.out];rfl,HB5.out⟩
theorem s_Text (c:Cmd)(cv:Value)(w:World)(hE:Env w)(hc:CmdR w cv c)(hm:SmCmd c):
 Calls Tryz.prog 21 #[cv] w fun e w'=>e= .returned (limV (textR c))∧Below w.heap.size w w':=by
 have HC:=hid hc;have HE:=hid hE;obtain⟨Z,HZ⟩:∃Z,Hid (Z=textR c):=⟨_,rfl⟩;rw[← HZ.out];obtain⟨ev,vv,rfl,he,hv⟩:=hc;obtain⟨ea,ec,rfl,_⟩:=id he;obtain⟨va,vc,rfl,_⟩:=id hv;have HBK:=hid (Blk.new w #[.int .i64 c.kind,.string (str c.name),.string (str c.on),.string (str c.other),.int .i64 c.q,.int .i64 c.g.n,.slice ea c.g.es.length ec,.slice va c.vals.length vc] 31);have hB:Below w.heap.size w (w.alloc (.cells #[.int .i64 c.kind,.string (str c.name),.string (str c.on),.string (str c.other),.int .i64 c.q,.int .i64 c.g.n,.slice ea c.g.es.length ec,.slice va c.vals.length vc] 31)):=by go_grown
 have HB0:=hid hB;clear hE hB he hv;go_enter Tryz.func21,Tryz.ntmps21;go_upto_region 1 with fail;generalize w.alloc (.cells #[.int .i64 c.kind,.string (str c.name),.string (str c.on),.string (str c.other),.int .i64 c.q,.int .i64 c.g.n,.slice ea c.g.es.length ec,.slice va c.vals.length vc] 31)=W0 at*
 have HRI:=hid (s_Right c _ W0 (HC.out.below HB0.out) hm);have hz:=HZ.out;unfold textR at hz;generalize hre:rightErr c=re at*
 have lx:=HBK.out.lt;have x0:=HBK.out.cell 0;have x1:=HBK.out.cell 1;have x2:=HBK.out.cell 2;have x3:=HBK.out.cell 3;have x4:=HBK.out.cell 4;have x5:=HBK.out.cell 5;have x6:=HBK.out.cell 6;have x7:=HBK.out.cell 7;simp only[xG,xH,xI]at x0 x1 x2 x3 x4 x5 x6 x7;by_cases h0:re=0
 case neg=>
  rw[if_pos h0]at hz;have HZ2:=hid hz;have hb:(re !=0)=true:=by simpa using h0
  clear hz hre h0;go_wp2_with fail;refine HRI.out.mono ?_;rintro e w1 ⟨rfl,hB1⟩;dsimp only;go_wp2_with fail;refine bodyPost_ret (results_two rfl _ _ _) rfl ?_;exact⟨by rw[HZ2.out];rfl,up HB0.out hB1⟩
 subst h0;rw[if_neg (by simp)]at hz;have HZ2:=hid hz;have HRE:=hid hre;clear hz hre HZ;go_wp2_with fail;refine HRI.out.mono ?_;rintro e w1 ⟨rfl,hB1⟩;have HB1:=hid (up HB0.out hB1);have HBK1:=hid (HBK.out.below hB1);clear hB1 lx x0 x1 x2 x3 x4 x5 x6 x7 HBK HB0 HRI;have HTX:=hid (s_text c _ w1 (HE.out.below HB1.out) (HC.out.below HB1.out) HRE.out);have lx:=HBK1.out.lt;have x0:=HBK1.out.cell 0;have x1:=HBK1.out.cell 1;have x2:=HBK1.out.cell 2;have x3:=HBK1.out.cell 3;have x4:=HBK1.out.cell 4;have x5:=HBK1.out.cell 5;have x6:=HBK1.out.cell 6;have x7:=HBK1.out.cell 7;simp only[xG,xH,xI]at x0 x1 x2 x3 x4 x5 x6 x7
 generalize textOf c=tx at*
 have hsz:=str_size tx;dsimp only;go_wp2_with fail;refine HTX.out.mono ?_;rintro e w2 ⟨rfl,hB2⟩;have HB2:=hid (up HB1.out hB2);have hz:=HZ2.out;unfold limR at hz;clear hB2;dsimp only;by_cases hlong:4096<tx.length
 ·rw[if_pos hlong]at hz
  have HZ3:=hid hz;have hl:(4096:Int)<((str tx).size:Int):=by omega
  clear hz;go_wp2_with fail;refine bodyPost_ret (results_two rfl _ _ _) rfl ?_;exact⟨by rw[HZ3.out];rfl,HB2.out⟩
 ·rw[if_neg hlong]at hz
  have HZ3:=hid hz;have hl:¬(4096:Int)<((str tx).size:Int):=by omega
  clear hz;go_wp2_with fail;refine bodyPost_ret (results_two rfl _ _ _) rfl ?_;exact⟨by rw[HZ3.out];rfl,HB2.out⟩
theorem s_guessed (t:List UInt8)(w:World)(hE:EnvS w)(hl:t.length≤4096):Calls Tryz.prog 70 #[.string (str t)] w (RetCmd (guessP t) w):=by
 by_cases h1:kIx ((parts32 t)[0]?.getD [])=0∨kIx ((parts32 t)[0]?.getD [])=2
 ·exact s_guessedA t w hE hl h1
 by_cases h2:kIx ((parts32 t)[0]?.getD [])=1
 ·exact s_guessedB t w hE hl h2
 by_cases h3:3≤kIx ((parts32 t)[0]?.getD [])∧kIx ((parts32 t)[0]?.getD [])≤5
 ·exact s_guessedC t w hE hl h3
 ·exact s_guessedD t w hE hl (by omega)
theorem part_at (t:List UInt8)(i:Nat):((parts32 t)[i]?.getD []).length≤t.length:=by
 by_cases h:i<(parts32 t).length
 ·rw[List.getElem?_eq_getElem h]
  exact part_len t _ (List.getElem_mem h)
 ·rw[List.getElem?_eq_none (by omega)];simp
theorem guessP_sm {t:List UInt8}(h:t.length≤4096):SmCmd (guessP t):=by
 have hp:=part_at t;have h1:=hp 1;have h2:=hp 2;have h3:=hp 3;unfold guessP;dsimp only;unfold SmCmd;repeat' split
 all_goals(refine ⟨?_,?_,?_⟩<;>(first|(dsimp only[cmd0];simp;done)|(dsimp only;omega)))
def RetRead (r:Int×Cmd)(w:World)(e:Ending)(w':World):Prop:=∃v,e= .returned (.tuple #[v,.int .i64 r.1])∧CmdR w' v r.2∧Below w.heap.size w w'
theorem CmdR.form {w:World}{v:Value}{c:Cmd}(h:CmdR w v c):∃ea ec va vc,v= .agg #[.int .i64 c.kind,.string (str c.name),.string (str c.on),.string (str c.other),.int .i64 c.q,.int .i64 c.g.n,.slice ea c.g.es.length ec,.slice va c.vals.length vc]∧EdgesR w (.slice ea c.g.es.length ec) c.g.es∧IntsR w (.slice va c.vals.length vc) c.vals:=by
 obtain⟨ev,vv,rfl,he,hv⟩:=h;obtain⟨ea,ec,rfl,_⟩:=id he;obtain⟨va,vc,rfl,_⟩:=id hv;exact⟨ea,ec,va,vc,rfl,he,hv⟩
def RetReadF (r:Int×Cmd)(w:World)(e:Ending)(w':World):Prop:=∃v,e= .returned (.tuple #[v,.int .i64 r.1])∧RetCmd r.2 w (.returned v) w'
theorem RetCmd.read {c:Cmd}{w w':World}{v:Value}(h:RetCmd c w (.returned v) w')(k:Int):RetReadF (k,c) w (.returned (.tuple #[v,.int .i64 k])) w':=⟨v,rfl,h⟩
theorem RetReadF.read {r:Int×Cmd}{w w':World}{e:Ending}(h:RetReadF r w e w'):RetRead r w e w':=by
 obtain⟨v,rfl,ev,vv,e,h1,h2,_,h4⟩:=h;injection e with e
 subst e;exact⟨_,rfl,⟨ev,vv,rfl,h1,h2⟩,h4⟩
theorem s_ReadF (t:List UInt8)(w:World)(hE:EnvS w)(hl:t.length≤140737488355328):Calls Tryz.prog 23 #[.string (str t)] w (RetReadF (readP t) w):=by
 obtain⟨Z,HZ⟩:∃Z,Hid (Z=readP t):=⟨_,rfl⟩;rw[← HZ.out];have HE:=hid hE;have hz:=HZ.out;unfold readP at hz;have hsz:=str_size t;have HR:=hid (Blk.new w #[.int .i64 0,.string ⟨#[]⟩,.string ⟨#[]⟩,.string ⟨#[]⟩,.int .i64 0,.int .i64 0,.slice none 0 0,.slice none 0 0] 31);have HB0:Hid (Below w.heap.size w (w.alloc (.cells #[.int .i64 0,.string ⟨#[]⟩,.string ⟨#[]⟩,.string ⟨#[]⟩,.int .i64 0,.int .i64 0,.slice none 0 0,.slice none 0 0] 31))):=by show Below _ _ _;go_grown
 clear hE HZ;go_enter Tryz.func23,Tryz.ntmps23;go_upto_region 1 with fail;generalize w.alloc (.cells #[.int .i64 0,.string ⟨#[]⟩,.string ⟨#[]⟩,.string ⟨#[]⟩,.int .i64 0,.int .i64 0,.slice none 0 0,.slice none 0 0] 31)=W0 at*
 by_cases hlong:4096<t.length
 ·rw[if_pos hlong]at hz
  have HZ:=hid hz;have hlI:(4096:Int)<((str t).size:Int):=by omega
  have lr:=HR.out.lt;have r0:=HR.out.cell 0;have r1:=HR.out.cell 1;have r2:=HR.out.cell 2;have r3:=HR.out.cell 3;have r4:=HR.out.cell 4;have r5:=HR.out.cell 5;have r6:=HR.out.cell 6;have r7:=HR.out.cell 7;have g0:=HR.out.frozen 0;have g1:=HR.out.frozen 1;have g2:=HR.out.frozen 2;have g3:=HR.out.frozen 3;have g4:=HR.out.frozen 4;have g5:=HR.out.frozen 5;have g6:=HR.out.frozen 6;have g7:=HR.out.frozen 7;simp only[xG,xH,xI]at r0 r1 r2 r3 r4 r5 r6 r7;clear hz hlong;go_wp2_with fail;refine bodyPost_ret (results_cellB rfl rfl (load_cmd (blk8 HR.out _ _ _ _ _ _ _ _))) rfl ?_;rw[HZ.out];exact(guess_fin (w:=w) (c:=cmd0) (ev:= .slice none 0 0) (vv:= .slice none 0 0) HR.out (Nat.le_refl _) HB0.out (EdgesR.nil _) (IntsR.nil _) (fun g e=>e.elim (fun e=>by cases e) (fun e=>by cases e))).read 19
 rw[if_neg hlong]at hz;have HZ:=hid hz;have hlI:¬(4096:Int)<((str t).size:Int):=by omega
 have HSM:=hid (guessP_sm (t:=t) (by omega));have HGU:=hid (s_guessed t W0 (HE.out.below HB0.out) (by omega));clear hz hlong;generalize guessP t=c at*
 go_wp2_with fail;refine HGU.out.mono ?_;rintro e w1 ⟨ev,vv,rfl,he,hv,hfr,hB1⟩;obtain⟨ea,ec,rfl,_⟩:=id he;obtain⟨va,vc,rfl,_⟩:=id hv;have hRW:w.heap.size<W0.heap.size:=HR.out.lt;have HVR:Hid (∀ g,(Value.slice ea c.g.es.length ec).ownBlock=some g∨(Value.slice va c.vals.length vc).ownBlock=some g→w.heap.size<g):=fun g e=>by have:=hfr g e;omega
 have HB1:=hid (up HB0.out hB1);have HR1:=hid (HR.out.below hB1);have HEV:=hid he;have HVV:=hid hv;clear he hv hfr hRW hB1 HR HB0 HGU;dsimp only;go_upto_region 4 with fail;have HC2:=hid (Blk.new w1 #[.int .i64 c.kind,.string (str c.name),.string (str c.on),.string (str c.other),.int .i64 c.q,.int .i64 c.g.n,.slice ea c.g.es.length ec,.slice va c.vals.length vc] 31);have hB2:Below w1.heap.size w1 (w1.alloc (.cells #[.int .i64 c.kind,.string (str c.name),.string (str c.on),.string (str c.other),.int .i64 c.q,.int .i64 c.g.n,.slice ea c.g.es.length ec,.slice va c.vals.length vc] 31)):=by go_grown
 have HB2:=hid (up HB1.out hB2);have HR2:=hid (HR1.out.below hB2);have HEV2:=hid (HEV.out.below hB2);have HVV2:=hid (HVV.out.below hB2);generalize w1.alloc (.cells #[.int .i64 c.kind,.string (str c.name),.string (str c.on),.string (str c.other),.int .i64 c.q,.int .i64 c.g.n,.slice ea c.g.es.length ec,.slice va c.vals.length vc] 31)=W2 at*
 generalize w1.heap.size=Cb at*
 clear hB2 HB1 HR1 HEV HVV;have HTX:=hid (fun (W:World) (h:Below W2.heap.size W2 W)=>s_Text c (.agg #[.int .i64 c.kind,.string (str c.name),.string (str c.on),.string (str c.other),.int .i64 c.q,.int .i64 c.g.n,.slice ea c.g.es.length ec,.slice va c.vals.length vc]) W ((HE.out.below HB2.out).below h).env ⟨_,_,rfl,HEV2.out.below h,HVV2.out.below h⟩ HSM.out);have c0:=HC2.out.cell 0;have c1:=HC2.out.cell 1;have c2:=HC2.out.cell 2;have c3:=HC2.out.cell 3;have c4:=HC2.out.cell 4;have c5:=HC2.out.cell 5;have c6:=HC2.out.cell 6;have c7:=HC2.out.cell 7;have lc:=HC2.out.lt;simp only[xG,xH,xI]at c0 c1 c2 c3 c4 c5 c6 c7
 have HT:=hid (HTX.out W2 (Below.refl _ _));unfold limV at HT;clear HTX;generalize hre:(textR c).1=re at*
 generalize hrs:(textR c).2=rs at*
 have HRE:=hid hre;have HRS:=hid hrs;clear hre hrs;go_wp2_with fail;refine HT.out.mono ?_;rintro e w3 ⟨rfl,hB3⟩;have HB3:=hid (up HB2.out hB3);have HC3:=hid (HC2.out.below hB3);have HR3:=hid (HR2.out.below hB3);have HEV3:=hid (HEV2.out.below hB3);have HVV3:=hid (HVV2.out.below hB3);clear hB3 HB2 HC2 HR2 HEV2 HVV2 HT c0 c1 c2 c3 c4 c5 c6 c7 lc;have c0:=HC3.out.cell 0;have c1:=HC3.out.cell 1;have c2:=HC3.out.cell 2;have c3:=HC3.out.cell 3;have c4:=HC3.out.cell 4;have c5:=HC3.out.cell 5;have c6:=HC3.out.cell 6;have c7:=HC3.out.cell 7;have lc:=HC3.out.lt;have lr:=HR3.out.lt;have r0:=HR3.out.cell 0
 have r1:=HR3.out.cell 1;have r2:=HR3.out.cell 2;have r3:=HR3.out.cell 3;have r4:=HR3.out.cell 4;have r5:=HR3.out.cell 5;have r6:=HR3.out.cell 6;have r7:=HR3.out.cell 7;have g0:=HR3.out.frozen 0;have g1:=HR3.out.frozen 1;have g2:=HR3.out.frozen 2;have g3:=HR3.out.frozen 3;have g4:=HR3.out.frozen 4;have g5:=HR3.out.frozen 5;have g6:=HR3.out.frozen 6;have g7:=HR3.out.frozen 7;simp only[xG,xH,xI]at c0 c1 c2 c3 c4 c5 c6 c7 r0 r1 r2 r3 r4 r5 r6 r7;have hz:=HZ.out;dsimp only;by_cases he:re=0
 case neg=>
  rw[if_pos (.inl he)]at hz;have HZ2:=hid hz;have hb:(re !=0)=true:=by simpa using he
  clear hz he;go_wp2_with fail;refine bodyPost_ret (results_cellB rfl rfl (load_cmd (blk8 HR3.out _ _ _ _ _ _ _ _))) rfl ?_;rw[HZ2.out];exact(guess_fin (w:=w) (c:=cmd0) (ev:= .slice none 0 0) (vv:= .slice none 0 0) HR3.out (Nat.le_refl _) HB3.out (EdgesR.nil _) (IntsR.nil _) (fun g e=>e.elim (fun e=>by cases e) (fun e=>by cases e))).read 4
 subst he;have hse:=str_eqb rs t;by_cases hst:rs=t
 case neg=>
  rw[if_pos (.inr hst)]at hz;have HZ2:=hid hz;have hb:(rs==t)=false:=by simpa using hst
  rw[hb]at hse;clear hz hst hb;go_wp2_with fail;refine bodyPost_ret (results_cellB rfl rfl (load_cmd (blk8 HR3.out _ _ _ _ _ _ _ _))) rfl ?_;rw[HZ2.out];exact(guess_fin (w:=w) (c:=cmd0) (ev:= .slice none 0 0) (vv:= .slice none 0 0) HR3.out (Nat.le_refl _) HB3.out (EdgesR.nil _) (IntsR.nil _) (fun g e=>e.elim (fun e=>by cases e) (fun e=>by cases e))).read 4
 rw[if_neg (fun h=>h.elim (fun h=>h rfl) fun h=>h hst)]at hz;have HZ2:=hid hz;have hb:(rs==t)=true:=by simpa using hst
 rw[hb]at hse;clear hz hst hb;go_wp2_with fail;refine bodyPost_ret (results_cellB rfl rfl (load_cmd (blk8 HR3.out _ _ _ _ _ _ _ _))) rfl ?_;rw[HZ2.out];exact(guess_fin (w:=w) (c:=c) HR3.out (Nat.le_refl _) HB3.out HEV3.out HVV3.out HVR.out).read 0
theorem s_Read (t:List UInt8)(w:World)(hE:EnvS w)(hl:t.length≤140737488355328):Calls Tryz.prog 23 #[.string (str t)] w (RetRead (readP t) w):=by
 refine(s_ReadF t w hE hl).mono ?_;exact fun e w' h=>h.read
end Go.Proofs.YtclgllmipcbagaaGreatDoor
