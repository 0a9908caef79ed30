/-
  Parts of the proof: XY9A
-/
import Derived.Test.YtclgllmipcbagaaGreatDoorSWk05
namespace Go.Proofs.YtclgllmipcbagaaGreatDoor
open Go.RowKit
set_option linter.unusedVariables false
set_option linter.unusedSimpArgs false
set_option maxRecDepth 100000
set_option maxHeartbeats 16000000
theorem q_guess (t:List UInt8)(w:World)(hl:t.length≤4096):Calls Tryz.prog 71 #[.string (str t)] w (RetCmd (guessQ t) w):=by
 obtain⟨Z,HZ⟩:∃Z,Hid (Z=guessQ t):=⟨_,rfl⟩;rw[← HZ.out];have HLT:=hid hl;clear hl;have HSP:=hid (fun W=>q_split t W (by have:=HLT.out;omega));have HPN:Hid (0<(parts32 t).length∧(parts32 t).length≤4097):=⟨parts_pos t,by have:=parts_le t;have:=HLT.out;omega⟩;have HPX:Hid (∀ x∈parts32 t,x.length≤4096):=fun x hx=>by
  have:=part_len t x hx;have:=HLT.out;omega
 generalize hP:parts32 t=P at*
 have HP:=hid hP;clear hP;go_enter Tryz.func71,Tryz.ntmps71;go_upto_region 1 with fail;have HRa:=hid (Blk.new w #[.int .i64 0,.string ⟨#[]⟩,.string ⟨#[]⟩,.string ⟨#[]⟩,.int .i64 0,.int .i64 0,.slice none 0 0,.slice none 0 0] 39);have HBa:Hid (Below w.heap.size w (w.alloc (.cells #[.int .i64 0,.string ⟨#[]⟩,.string ⟨#[]⟩,.string ⟨#[]⟩,.int .i64 0,.int .i64 0,.slice none 0 0,.slice none 0 0] 39))):=by show Below _ _ _;go_grown
 generalize w.alloc (.cells #[.int .i64 0,.string ⟨#[]⟩,.string ⟨#[]⟩,.string ⟨#[]⟩,.int .i64 0,.int .i64 0,.slice none 0 0,.slice none 0 0] 39)=W0 at*
 go_upto_region 2 with fail;have HVb:Hid (StsR (W0.alloc (.cells #[.string {data:= #[108,101,116]},.string {data:= #[112,117,116]},.string {data:= #[102,105,114,101]},.string {data:= #[115,116,97,98,105,108,105,122,101]},.string {data:= #[114,101,100,117,99,101]},.string {data:= #[97,100,100]},.string {data:= #[100,114,111,112]},.string {data:= #[117,110,100,111]},.string {data:= #[114,101,100,111]}] 9)) (.slice (some ⟨W0.heap.size,0,none⟩) 9 9) verbsW):=by
  refine⟨_,_,rfl,by decide,by omega,.inr ⟨W0.heap.size,0,rfl,by simp,fun i hi=> ?_⟩⟩;rw[Nat.zero_add,(Blk.new W0 _ _).cell i,show(#[.string {data:= #[108,101,116]},.string {data:= #[112,117,116]},.string {data:= #[102,105,114,101]},.string {data:= #[115,116,97,98,105,108,105,122,101]},.string {data:= #[114,101,100,117,99,101]},.string {data:= #[97,100,100]},.string {data:= #[100,114,111,112]},.string {data:= #[117,110,100,111]},.string {data:= #[114,101,100,111]}]:Array Value)=(verbsW.map fun x=>Value.string (str x)).toArray from rfl,List.getElem?_toArray]
 have hBb:Below W0.heap.size W0 (W0.alloc (.cells #[.string {data:= #[108,101,116]},.string {data:= #[112,117,116]},.string {data:= #[102,105,114,101]},.string {data:= #[115,116,97,98,105,108,105,122,101]},.string {data:= #[114,101,100,117,99,101]},.string {data:= #[97,100,100]},.string {data:= #[100,114,111,112]},.string {data:= #[117,110,100,111]},.string {data:= #[114,101,100,111]}] 9)):=by go_grown
 have HRb:=hid (HRa.out.below hBb);have HBb:=hid (up HBa.out hBb);generalize W0.alloc (.cells #[.string {data:= #[108,101,116]},.string {data:= #[112,117,116]},.string {data:= #[102,105,114,101]},.string {data:= #[115,116,97,98,105,108,105,122,101]},.string {data:= #[114,101,100,117,99,101]},.string {data:= #[97,100,100]},.string {data:= #[100,114,111,112]},.string {data:= #[117,110,100,111]},.string {data:= #[114,101,100,111]}] 9)=W1 at*
 generalize W0.heap.size=Vb at*
 clear hBb HRa HBa;go_wp2_with fail;refine(HSP.out _).mono ?_;rintro e w2 ⟨v,rfl,ho,hB2⟩;obtain⟨Sb,sc,rfl,hgb⟩:=owns_some ho HPN.out.1;have HST2:=hid (sts_owns ho (by have:=HPN.out;omega));have HRc:=hid (HRb.out.below hB2);have HVc:=hid (HVb.out.below hB2);have HBc:=hid (up HBb.out hB2);clear hB2 ho hgb HRb HVb HBb HSP;dsimp only;go_upto_region 4 with fail;have HCd:=hid (Blk.new w2 #[.int .i64 (-1),.string ⟨#[]⟩,.string ⟨#[]⟩,.string ⟨#[]⟩,.int .i64 0,.int .i64 0,.slice none 0 0,.slice none 0 0] 39);have hBd:Below w2.heap.size w2 (w2.alloc (.cells #[.int .i64 (-1),.string ⟨#[]⟩,.string ⟨#[]⟩,.string ⟨#[]⟩,.int .i64 0,.int .i64 0,.slice none 0 0,.slice none 0 0] 39)):=by go_grown
 have HSC:Hid (Sb<w2.heap.size∧Vb<w2.heap.size∧w.heap.size<w2.heap.size):=by
  obtain⟨b',off',eb,h,_⟩:=HST2.out.at (k:=0) HPN.out.1;injection eb with eb
  injection eb with eb1 eb2
  obtain⟨b'',off'',ec,h',_⟩:=HVc.out.at (k:=0) (by decide);injection ec with ec
  injection ec with ec1 ec2
  exact⟨by rw[eb1];exact h,by rw[ec1];exact h',HRc.out.lt⟩
 have HRd:=hid (HRc.out.below hBd);have HVd:=hid (HVc.out.below hBd);have HSd:=hid (HST2.out.below hBd);have HBd:=hid (up HBc.out hBd);generalize w2.alloc (.cells #[.int .i64 (-1),.string ⟨#[]⟩,.string ⟨#[]⟩,.string ⟨#[]⟩,.int .i64 0,.int .i64 0,.slice none 0 0,.slice none 0 0] 39)=W3 at*
 generalize w2.heap.size=Cb at*
 clear hBd HRc HVc HST2 HBc;go_wp2_with fail;go_loopw [6] (fun i wr=>∃j:Nat,j≤9∧i= .int .i64 j∧Hid (Blk wr Cb #[.int .i64 (kTo (P[0]?.getD []) j),.string ⟨#[]⟩,.string ⟨#[]⟩,.string ⟨#[]⟩,.int .i64 0,.int .i64 0,.slice none 0 0,.slice none 0 0] 39)∧Hid (Blk wr w.heap.size #[.int .i64 0,.string ⟨#[]⟩,.string ⟨#[]⟩,.string ⟨#[]⟩,.int .i64 0,.int .i64 0,.slice none 0 0,.slice none 0 0] 39)∧Hid (StsR wr (.slice (some ⟨Sb,0,none⟩) P.length sc) P)∧Hid (StsR wr (.slice (some ⟨Vb,0,none⟩) 9 9) verbsW)∧Hid (Below w.heap.size w wr)) (fun i _=>9-(intOf i).toNat);case atStart=>exact⟨0,Nat.zero_le _,rfl,HCd,HRd,HSd,HVd,HBd⟩
 case round=>
 clear HCd HRd HSd HVd HBd;obtain⟨j,hj,rfl,HC6,HR6,HST6,HV6,HB6⟩:=hrel;obtain⟨W6,rfl⟩:∃wo:World,wo=wr:=⟨_,rfl⟩;by_cases hlt:j<9
 ·have hlt':(j:Int)<9:=by omega
  have hj0:(0:Int)≤(j:Int):=by omega
  have wk:IntKind.i64.wrap ((j:Int)+1)=(j:Int)+1:=IntWalk.i64_in _ (by omega);obtain⟨b',off',eb,hSb,hP0⟩:=HST6.out.at (k:=0) HPN.out.1;injection eb with eb
  injection eb with eb1 eb2
  subst eb1 eb2;obtain⟨b',off',eb,hVb,hVj⟩:=HV6.out.at (k:=j) hlt;injection eb with eb
  injection eb with eb1 eb2
  subst eb1 eb2;have hP0':W6.cell? ⟨Sb,0,none⟩=some (.string (str (P[0]?.getD []))):=by simpa using hP0
  have hVj':W6.cell? ⟨Vb,j,none⟩=some (.string (str (verbsW[j]?.getD []))):=by simpa using hVj
  have hP1:(0:Int)<(P.length:Int):=by have:=HPN.out;omega
  have hP1n:0<P.length:=HPN.out.1;have c0:=(HC6.out.cell 0).trans rfl;have lc:=HC6.out.lt;have fc0:=HC6.out.frozen 0;have HKS:Hid (kTo (P[0]?.getD []) (j+1)=if P[0]?.getD []=verbsW[j]?.getD []then(j:Int)else kTo (P[0]?.getD []) j):=rfl;clear hP0 hVj;generalize hp0:P[0]?.getD []=p0 at*
  have HP0:=hid hp0;clear hp0;generalize verbsW[j]?.getD []=vj at*
  obtain⟨k',hk'⟩:∃k',k'=kTo p0 (j+1):=⟨_,rfl⟩;have HKJ:=hid hk';rw[← hk']at HKS;clear hk';generalize kTo p0 j=k at*
  by_cases hx:p0=vj
  ·have hb:=str_eqT hx
   have HK':Hid (k'=(j:Int)):=by show _=_;rw[HKS.out,if_pos hx]
   clear hx;go_upto_region 7 with fail;let S:World→Prop:=fun w'=>Below W6.heap.size W6 w'
   (refine wp_region_pre 2 7 [0,1,3,4,5] [2,6] S (by kernel_rfl) (by kernel_rfl) (by intro _ _ d _ _ h;cases d<;>exact h) ?_;simp only[xA,xB,xC,xD,xE,xF]);(repeat ((refine' wpSeq_take rfl _ (by rfl) ?_ ?_;rotate_left;focus(intro w' hS;(try dsimp only at hS);skip;go_simp;(first|done|with_reducible rfl));(try go_frame));(try go_frame)));refine wpSeq_nil ⟨Below.drew (Below.refl _ _),?_⟩;(repeat ((refine' wpSeq_take rfl _ (by rfl) ?_ ?_;rotate_left;focus(intro w' hS;(try dsimp only at hS);have q0:w'.cell? ⟨Sb,0,none⟩=some (.string (str p0)):=(Below.cell hS (p:=⟨Sb,0,none⟩) hSb).trans hP0';have q1:w'.cell? ⟨Vb,j,none⟩=some (.string (str vj)):=(Below.cell hS (p:=⟨Vb,j,none⟩) hVb).trans hVj';go_simp;(first|done|with_reducible rfl));(try go_frame));(try go_frame)))
   refine wpSeq_nil ?_;clear S;have c0:W6.drew.cell? ⟨Cb,0,none⟩=_:=c0;have lc:Cb<W6.drew.heap.size:=lc;have fc0:W6.drew.frozen? ⟨Cb,0,none⟩=false:=fc0;have hd:Below W6.heap.size W6 W6.drew:=Below.drew (Below.refl _ _);have hC7:=(HC6.out.below hd).set 0 (.int .i64 j);simp only[xM,xJ,xK]at hC7;have HC7:=hid hC7;have HR7:=hid ((HR6.out.below hd).other (g:=Cb) (by have:=HSC.out;omega) 0 (.int .i64 j));have HST7:=hid ((HST6.out.below hd).put (g:=Cb) (fun e=>by injection e with e;have e':Sb=Cb:=e;have:=HSC.out.1;omega) (subX_set W6.drew Cb 0 (.int .i64 j)));have HV7:=hid ((HV6.out.below hd).put (g:=Cb) (fun e=>by injection e with e;have e':Vb=Cb:=e;have:=HSC.out.2.1;omega) (subX_set W6.drew Cb 0 (.int .i64 j)))
   have HB7:=hid ((up HB6.out hd).setCell (p:=⟨Cb,0,none⟩) (by have:=HSC.out;show _≤Cb;omega) (.int .i64 j));clear hd hC7;go_wp2_with fail;go_roundw;case rel=>exact⟨j+1,by omega,by go_num,by show Blk _ _ _ _;rw[← HKJ.out,HK'.out];exact HC7.out,HR7,HST7,HV7,HB7⟩
   case measure=>simp[intOf];omega
  ·have hb:=str_eqF hx
   have HK':Hid (k'=k):=by show _=_;rw[HKS.out,if_neg hx]
   clear hx;go_upto_region 7 with fail;let S:World→Prop:=fun w'=>Below W6.heap.size W6 w'
   (refine wp_region_pre 2 7 [0,1,3,4,5] [2,6] S (by kernel_rfl) (by kernel_rfl) (by intro _ _ d _ _ h;cases d<;>exact h) ?_;simp only[xA,xB,xC,xD,xE,xF]);(repeat ((refine' wpSeq_take rfl _ (by rfl) ?_ ?_;rotate_left;focus(intro w' hS;(try dsimp only at hS);skip;go_simp;(first|done|with_reducible rfl));(try go_frame));(try go_frame)));refine wpSeq_nil ⟨Below.drew (Below.refl _ _),?_⟩;(repeat ((refine' wpSeq_take rfl _ (by rfl) ?_ ?_;rotate_left;focus(intro w' hS;(try dsimp only at hS);have q0:w'.cell? ⟨Sb,0,none⟩=some (.string (str p0)):=(Below.cell hS (p:=⟨Sb,0,none⟩) hSb).trans hP0';have q1:w'.cell? ⟨Vb,j,none⟩=some (.string (str vj)):=(Below.cell hS (p:=⟨Vb,j,none⟩) hVb).trans hVj';go_simp;(first|done|with_reducible rfl));(try go_frame));(try go_frame)))
   refine wpSeq_nil ?_;clear S;have hd:Below W6.heap.size W6 W6.drew:=Below.drew (Below.refl _ _);have HC7:=hid (HC6.out.below hd);have HR7:=hid (HR6.out.below hd);have HST7:=hid (HST6.out.below hd);have HV7:=hid (HV6.out.below hd);have HB7:=hid (up HB6.out hd);clear hd;go_wp2_with fail;go_roundw;case rel=>exact⟨j+1,by omega,by go_num,by show Blk _ _ _ _;rw[← HKJ.out,HK'.out];exact HC7.out,HR7,HST7,HV7,HB7⟩
   case measure=>simp[intOf];omega
 obtain rfl:j=9:=by omega
 have hC:=HC6.out;rw[kTo_nine]at hC;have HC6:=hid hC;clear hC hj hlt;generalize hk:kIx (P[0]?.getD [])=k at*
 have HK:=hid hk;have hkg: -1≤k∧k≤8:=by rw[← hk];exact⟨kIx_ge _,kIx_le _⟩
 clear hk
 have HZ1:Hid (Z=if 6<k∨P.length<2 then{cmd0 with kind:=k}else
  (if k=0 then(if 5+(P[1]?.getD []).length<t.length then{cmd0 with kind:=k,name:=P[1]?.getD [],g:=grOf (t.drop (5+(P[1]?.getD []).length))}else{cmd0 with kind:=k,name:=P[1]?.getD []})
  else if k=1 then(if 3<P.length then{cmd0 with kind:=k,name:=P[1]?.getD [],on:=P[3]?.getD [],vals:=(P.drop 4).map intQ}else{cmd0 with kind:=k,name:=P[1]?.getD []})
  else if k=2 then{cmd0 with kind:=k,name:=P[1]?.getD [],vals:=(P.drop 2).map intQ}
  else if k=3∨k=4 then{cmd0 with kind:=k,name:=P[1]?.getD [],q:=intQ (P[P.length-1]?.getD [])}
  else if k=5 then(if 3<P.length then{cmd0 with kind:=k,name:=P[1]?.getD [],on:=P[2]?.getD [],other:=P[3]?.getD []}else{cmd0 with kind:=k,name:=P[1]?.getD []})
  else{cmd0 with kind:=k,name:=P[1]?.getD []})):=by
  show _=_
  rw[HZ.out]
  unfold guessQ
  rw[HP.out]
  dsimp only
  rw[HK.out]
 clear HZ;have hcR:w.heap.size≠Cb:=by have:=HSC.out;omega
 have HCR:=hid hcR;clear hcR;obtain⟨c0,c1,c2,c3,c4,c5,c6,c7⟩:=Blk.q8 HC6.out;have lc:=HC6.out.lt;obtain⟨fc0,fc1,fc2,fc3,fc4,fc5,fc6,fc7⟩:=Blk.z8 HC6.out;have lr:=HR6.out.lt;obtain⟨r0,r1,r2,r3,r4,r5,r6,r7⟩:=Blk.q8 HR6.out;obtain⟨g0,g1,g2,g3,g4,g5,g6,g7⟩:=Blk.z8 HR6.out;by_cases h6:6<k
 ·have h6d:decide (6<k)=true:=by simpa using h6
  have hz:Hid (Z={cmd0 with kind:=k}):=by show _=_;rw[HZ1.out,if_pos (.inl h6)]
  clear HZ1 hkg;go_wp2_with fail;refine bodyPost_ret (results_cellA rfl rfl (load_cmdQ (blk8 (HR6.out) _ _ _ _ _ _ _ _))) rfl ?_;rw[hz.out];exact guess_finQ (c:={cmd0 with kind:=k}) (HR6.out) (Nat.le_refl _) (HB6.out) (EdgesR.nil _) (IntsR.nil _) (fun g e=>e.elim (fun e=>by cases e) (fun e=>by cases e))
 have h6d:decide (6<k)=false:=by simpa using h6
 by_cases h2:P.length<2
 ·have h2I:(P.length:Int)<2:=by omega
  have hz:Hid (Z={cmd0 with kind:=k}):=by show _=_;rw[HZ1.out,if_pos (.inr h2)]
  clear HZ1 hkg;go_wp2_with fail;refine bodyPost_ret (results_cellA rfl rfl (load_cmdQ (blk8 (HR6.out) _ _ _ _ _ _ _ _))) rfl ?_;rw[hz.out];exact guess_finQ (c:={cmd0 with kind:=k}) (HR6.out) (Nat.le_refl _) (HB6.out) (EdgesR.nil _) (IntsR.nil _) (fun g e=>e.elim (fun e=>by cases e) (fun e=>by cases e))
 have h2I:¬(P.length:Int)<2:=by omega
 have HZ2:=hid (HZ1.out.trans (if_neg (by omega)));have HKC:Hid ((k=3∨k=4)∨(k= -1∨k=6)∨k=0∨k=1∨k=2∨k=5):=by show _∨_;omega
 clear HZ1 hkg;obtain⟨b',off',eb,hSb,hP1⟩:=HST6.out.at (k:=1) (by omega);injection eb with eb
 injection eb with eb1 eb2
 subst eb1 eb2;have n1:(1:Int)<(P.length:Int):=by omega
 go_upto_region 12 with fail;have hC7:=HC6.out.set 1 (.string (str (P[1]?.getD [])));simp only[xM,xJ,xK]at hC7;have HC7:=hid hC7;have HR7:=hid (HR6.out.other (g:=Cb) (by have:=HSC.out;omega) 1 (.string (str (P[1]?.getD []))));have HST7:=hid (HST6.out.put (g:=Cb) (fun e=>by injection e with e;have e':Sb=Cb:=e;have:=HSC.out.1;omega) (subX_set W6 Cb 1 (.string (str (P[1]?.getD [])))));have HB7:=hid (HB6.out.setCell (p:=⟨Cb,1,none⟩) (by have:=HSC.out;show _≤Cb;omega) (.string (str (P[1]?.getD []))));have HNM:Hid ((P[1]?.getD []).length≤4096):=HPX.out _ (by rw[List.getElem?_eq_getElem (by omega)];exact List.getElem_mem _)
 generalize W6.setCell ⟨Cb,1,none⟩ (.string (str (P[1]?.getD [])))=W7 at*
 generalize hnm:P[1]?.getD []=nm at*
 clear hC7 hnm hP1 hSb HC6 HR6 HST6 HB6 HV6;clear c0 c1 c2 c3 c4 c5 c6 c7 lc fc0 fc1 fc2 fc3 fc4 fc5 fc6 fc7 lr r0 r1 r2 r3 r4 r5 r6 r7 g0 g1 g2 g3 g4 g5 g6 g7;obtain⟨c0,c1,c2,c3,c4,c5,c6,c7⟩:=Blk.q8 HC7.out;have lc:=HC7.out.lt;obtain⟨fc0,fc1,fc2,fc3,fc4,fc5,fc6,fc7⟩:=Blk.z8 HC7.out;have lr:=HR7.out.lt;obtain⟨r0,r1,r2,r3,r4,r5,r6,r7⟩:=Blk.q8 HR7.out;obtain⟨g0,g1,g2,g3,g4,g5,g6,g7⟩:=Blk.z8 HR7.out;clear h6 h6d;rcases HKC.out with (rfl|rfl)|(rfl|rfl)|rfl|rfl|rfl|rfl
 ·have hz:Hid (Z={cmd0 with kind:=3,name:=nm,q:=intQ (P[P.length-1]?.getD [])}):=HZ2.out
  obtain⟨m,hm⟩:∃m,m=P.length-1:=⟨_,rfl⟩;rw[← hm]at hz;have hpm:(P.length:Int)-1=(m:Int):=by omega
  have hmu:(P.length:Int)≤9223372036854775807:=by have:=HPN.out;omega
  have hwm:IntKind.i64.wrap (m:Int)=(m:Int):=IntWalk.i64_in _ (by omega);have hm0:(0:Int)≤(m:Int):=by omega
  have hm1:(m:Int)<(P.length:Int):=by omega
  obtain⟨b',off',eb,hSbm,hPm⟩:=HST7.out.at (k:=m) (by omega);injection eb with eb
  injection eb with eb1 eb2
  subst eb1 eb2;have hPm':W7.cell? ⟨Sb,m,none⟩=some (.string (str (P[m]?.getD []))):=by simpa using hPm
  have HIN:=hid (fun W=>q_Int (P[m]?.getD []) W (by have:=HPX.out (P[m]?.getD []) (by rw[List.getElem?_eq_getElem (by omega)];exact List.getElem_mem _);omega));generalize P[m]?.getD []=pm at*
  generalize intQ pm=x at*
  clear HZ2 hm hPm;go_wp2_with fail;refine(HIN.out _).mono ?_;rintro e w8 ⟨rfl,rfl⟩;dsimp only;go_upto_region 28 with fail;have hC10:=(HC7.out.set 4 (.int .i64 x));simp only[xM,xJ,xK]at hC10;have HC10:=hid hC10;have HR10:=hid (HR7.out.other HCR.out 4 (.int .i64 x));have HB10:=hid (HB7.out.setCell (p:=⟨Cb,4,none⟩) (by have:=HSC.out;show _≤Cb;omega) (.int .i64 x));generalize w8.setCell ⟨Cb,4,none⟩ (.int .i64 x)=W10 at*
  clear hC10 HC7 HR7 HB7;clear c0 c1 c2 c3 c4 c5 c6 c7 lc fc0 fc1 fc2 fc3 fc4 fc5 fc6 fc7 lr r0 r1 r2 r3 r4 r5 r6 r7 g0 g1 g2 g3 g4 g5 g6 g7;obtain⟨c0,c1,c2,c3,c4,c5,c6,c7⟩:=Blk.q8 HC10.out;have lc:=HC10.out.lt;obtain⟨fc0,fc1,fc2,fc3,fc4,fc5,fc6,fc7⟩:=Blk.z8 HC10.out;have lr:=HR10.out.lt;obtain⟨r0,r1,r2,r3,r4,r5,r6,r7⟩:=Blk.q8 HR10.out;obtain⟨g0,g1,g2,g3,g4,g5,g6,g7⟩:=Blk.z8 HR10.out;go_wp2_with fail;refine bodyPost_ret (results_cellA rfl rfl (load_cmdQ (blk8 (HR10.out) _ _ _ _ _ _ _ _))) rfl ?_;rw[hz.out];exact guess_finQ (c:={cmd0 with kind:=3,name:=nm,q:=x}) (HR10.out) (Nat.le_refl _) (HB10.out) (EdgesR.nil _) (IntsR.nil _) (fun g e=>e.elim (fun e=>by cases e) (fun e=>by cases e))
 ·have hz:Hid (Z={cmd0 with kind:=4,name:=nm,q:=intQ (P[P.length-1]?.getD [])}):=HZ2.out
  obtain⟨m,hm⟩:∃m,m=P.length-1:=⟨_,rfl⟩;rw[← hm]at hz;have hpm:(P.length:Int)-1=(m:Int):=by omega
  have hmu:(P.length:Int)≤9223372036854775807:=by have:=HPN.out;omega
  have hwm:IntKind.i64.wrap (m:Int)=(m:Int):=IntWalk.i64_in _ (by omega);have hm0:(0:Int)≤(m:Int):=by omega
  have hm1:(m:Int)<(P.length:Int):=by omega
  obtain⟨b',off',eb,hSbm,hPm⟩:=HST7.out.at (k:=m) (by omega);injection eb with eb
  injection eb with eb1 eb2
  subst eb1 eb2;have hPm':W7.cell? ⟨Sb,m,none⟩=some (.string (str (P[m]?.getD []))):=by simpa using hPm
  have HIN:=hid (fun W=>q_Int (P[m]?.getD []) W (by have:=HPX.out (P[m]?.getD []) (by rw[List.getElem?_eq_getElem (by omega)];exact List.getElem_mem _);omega));generalize P[m]?.getD []=pm at*
  generalize intQ pm=x at*
  clear HZ2 hm hPm;go_wp2_with fail;refine(HIN.out _).mono ?_;rintro e w8 ⟨rfl,rfl⟩;dsimp only;go_upto_region 28 with fail;have hC10:=(HC7.out.set 4 (.int .i64 x));simp only[xM,xJ,xK]at hC10;have HC10:=hid hC10;have HR10:=hid (HR7.out.other HCR.out 4 (.int .i64 x));have HB10:=hid (HB7.out.setCell (p:=⟨Cb,4,none⟩) (by have:=HSC.out;show _≤Cb;omega) (.int .i64 x));generalize w8.setCell ⟨Cb,4,none⟩ (.int .i64 x)=W10 at*
  clear hC10 HC7 HR7 HB7;clear c0 c1 c2 c3 c4 c5 c6 c7 lc fc0 fc1 fc2 fc3 fc4 fc5 fc6 fc7 lr r0 r1 r2 r3 r4 r5 r6 r7 g0 g1 g2 g3 g4 g5 g6 g7;obtain⟨c0,c1,c2,c3,c4,c5,c6,c7⟩:=Blk.q8 HC10.out;have lc:=HC10.out.lt;obtain⟨fc0,fc1,fc2,fc3,fc4,fc5,fc6,fc7⟩:=Blk.z8 HC10.out;have lr:=HR10.out.lt;obtain⟨r0,r1,r2,r3,r4,r5,r6,r7⟩:=Blk.q8 HR10.out;obtain⟨g0,g1,g2,g3,g4,g5,g6,g7⟩:=Blk.z8 HR10.out;go_wp2_with fail;refine bodyPost_ret (results_cellA rfl rfl (load_cmdQ (blk8 (HR10.out) _ _ _ _ _ _ _ _))) rfl ?_;rw[hz.out];exact guess_finQ (c:={cmd0 with kind:=4,name:=nm,q:=x}) (HR10.out) (Nat.le_refl _) (HB10.out) (EdgesR.nil _) (IntsR.nil _) (fun g e=>e.elim (fun e=>by cases e) (fun e=>by cases e))
 ·have hz:Hid (Z={cmd0 with kind:=(-1),name:=nm}):=HZ2.out
  clear HZ2;go_wp2_with fail;refine bodyPost_ret (results_cellA rfl rfl (load_cmdQ (blk8 (HR7.out) _ _ _ _ _ _ _ _))) rfl ?_;rw[hz.out];exact guess_finQ (c:={cmd0 with kind:=(-1),name:=nm}) (HR7.out) (Nat.le_refl _) (HB7.out) (EdgesR.nil _) (IntsR.nil _) (fun g e=>e.elim (fun e=>by cases e) (fun e=>by cases e))
 ·have hz:Hid (Z={cmd0 with kind:=6,name:=nm}):=HZ2.out
  clear HZ2;go_wp2_with fail;refine bodyPost_ret (results_cellA rfl rfl (load_cmdQ (blk8 (HR7.out) _ _ _ _ _ _ _ _))) rfl ?_;rw[hz.out];exact guess_finQ (c:={cmd0 with kind:=6,name:=nm}) (HR7.out) (Nat.le_refl _) (HB7.out) (EdgesR.nil _) (IntsR.nil _) (fun g e=>e.elim (fun e=>by cases e) (fun e=>by cases e))
 ·by_cases hg:5+nm.length<t.length
  ·have hz:Hid (Z={cmd0 with kind:=0,name:=nm,g:=grOf (t.drop (5+nm.length))}):=HZ2.out.trans (if_pos hg)
   clear HZ2;have zn:=str_size nm;have zt:=str_size t;have hn4:=HNM.out;have hgI:(5:Int)+(nm.length:Int)<(t.length:Int):=by omega
   have hgJ:(5:Int)+(nm.length:Int)≤(t.length:Int):=by omega
   have HRG:=hid (fun W=>q_ReadGraphF (t.drop (5+nm.length)) W);have HXD:=hid (str_xd t (5+nm.length) (by omega));have zL:(({data:= #[108,101,116,32]}:ByteArray)++str nm++({data:= #[32]}:ByteArray)).size=5+nm.length:=by rw[ByteArray.size_append,ByteArray.size_append,zn,show({data:= #[108,101,116,32]}:ByteArray).size=4 from rfl,show({data:= #[32]}:ByteArray).size=1 from rfl];omega
   generalize t.drop (5+nm.length)=td at*
   go_upto_region 16 with fail;go_wp2_with fail;(try rw[HXD.out]);refine(HRG.out _).mono ?_;rintro e w9 ⟨gv,rfl,hgr,hfr,hB9⟩;have HG:Hid (GrR w9 gv (grOf td)):=hgr;clear hgr;generalize (tableP wGraph 45 true (opened (scanR td))).2.1=z1 at*
   generalize (tableP wGraph 45 true (opened (scanR td))).2.2=z2 at*
   obtain⟨ev,rfl,he⟩:=HG.out;obtain⟨ea,ec,rfl,_⟩:=id he;have HEV:=hid he;have HFR:Hid (∀ g',(Value.slice ea (grOf td).es.length ec).ownBlock=some g'→W7.heap.size≤g'):=fun g' e=>hfr _ _ g' rfl e;generalize grOf td=g at*
   have HB9:=hid (up HB7.out hB9);have HC9:=hid (HC7.out.below hB9);have HR9:=hid (HR7.out.below hB9);have hW7:Cb<W7.heap.size∧w.heap.size<W7.heap.size:=⟨lc,lr⟩;have HW7:=hid hW7;clear c0 c1 c2 c3 c4 c5 c6 c7 lc fc0 fc1 fc2 fc3 fc4 fc5 fc6 fc7 lr r0 r1 r2 r3 r4 r5 r6 r7 g0 g1 g2 g3 g4 g5 g6 g7;clear hB9 hfr HC7 HR7 HST7 HB7 HG he HRG HXD hW7;obtain⟨c0,c1,c2,c3,c4,c5,c6,c7⟩:=Blk.q8 HC9.out;have lc:=HC9.out.lt;obtain⟨fc0,fc1,fc2,fc3,fc4,fc5,fc6,fc7⟩:=Blk.z8 HC9.out;have lr:=HR9.out.lt;obtain⟨r0,r1,r2,r3,r4,r5,r6,r7⟩:=Blk.q8 HR9.out;obtain⟨g0,g1,g2,g3,g4,g5,g6,g7⟩:=Blk.z8 HR9.out;dsimp only;go_upto_region 28 with fail
   have hC10:=((HC9.out.set 5 (.int .i64 g.n)).set 6 (.slice ea g.es.length ec));simp only[xM,xJ,xK]at hC10;have HC10:=hid hC10;have HR10:=hid ((HR9.out.other HCR.out 5 (.int .i64 g.n)).other HCR.out 6 (.slice ea g.es.length ec));have HB10:=hid ((HB9.out.setCell (p:=⟨Cb,5,none⟩) (by have:=HSC.out;show _≤Cb;omega) (.int .i64 g.n)).setCell (p:=⟨Cb,6,none⟩) (by have:=HSC.out;show _≤Cb;omega) (.slice ea g.es.length ec));have HEV10:=hid (HEV.out.putC HC9.out ((subX_set _ Cb 5 (.int .i64 g.n)).trans (subX_set _ Cb 6 (.slice ea g.es.length ec))));generalize (w9.setCell ⟨Cb,5,none⟩ (.int .i64 g.n)).setCell ⟨Cb,6,none⟩ (.slice ea g.es.length ec)=W10 at*
   clear hC10 HC9 HR9 HB9;clear c0 c1 c2 c3 c4 c5 c6 c7 lc fc0 fc1 fc2 fc3 fc4 fc5 fc6 fc7 lr r0 r1 r2 r3 r4 r5 r6 r7 g0 g1 g2 g3 g4 g5 g6 g7;obtain⟨c0,c1,c2,c3,c4,c5,c6,c7⟩:=Blk.q8 HC10.out;have lc:=HC10.out.lt;obtain⟨fc0,fc1,fc2,fc3,fc4,fc5,fc6,fc7⟩:=Blk.z8 HC10.out;have lr:=HR10.out.lt;obtain⟨r0,r1,r2,r3,r4,r5,r6,r7⟩:=Blk.q8 HR10.out;obtain⟨g0,g1,g2,g3,g4,g5,g6,g7⟩:=Blk.z8 HR10.out;go_wp2_with fail;refine bodyPost_ret (results_cellA rfl rfl (load_cmdQ (blk8 (HR10.out) _ _ _ _ _ _ _ _))) rfl ?_;rw[hz.out];exact guess_finQ (c:={cmd0 with kind:=0,name:=nm,g:=g}) (HR10.out) (Nat.le_refl _) (HB10.out) HEV10.out (IntsR.nil _) (fun g' e=>by rcases e with e|e;(have:=HFR.out g' e;have:=HW7.out.2;omega);cases e)
  ·have hz:Hid (Z={cmd0 with kind:=0,name:=nm}):=HZ2.out.trans (if_neg hg)
   clear HZ2;have zn:=str_size nm;have zt:=str_size t;have hn4:=HNM.out;have hgI:¬(5:Int)+(nm.length:Int)<(t.length:Int):=by omega
   go_wp2_with fail;refine bodyPost_ret (results_cellA rfl rfl (load_cmdQ (blk8 (HR7.out) _ _ _ _ _ _ _ _))) rfl ?_;rw[hz.out];exact guess_finQ (c:={cmd0 with kind:=0,name:=nm}) (HR7.out) (Nat.le_refl _) (HB7.out) (EdgesR.nil _) (IntsR.nil _) (fun g e=>e.elim (fun e=>by cases e) (fun e=>by cases e))
 ·by_cases h4:3<P.length
  ·have hcap:P.length≤sc:=by obtain⟨_,_,e,h1,_⟩:=HST7.out;injection e with _ _ e3;omega
   by_cases h22:sc=4
   ·subst h22
    have hz:Hid (Z={cmd0 with kind:=1,name:=nm,on:=P[3]?.getD [],vals:=(P.drop 4).map intQ}):=HZ2.out.trans (if_pos h4);have h4I:(3:Int)<(P.length:Int):=by omega
    have h4N:3<P.length:=h4;have h4J:(4:Int)≤(P.length:Int):=by omega
    have HSD:Hid (StsR W7 (.slice (some ⟨Sb,0,none⟩) 0 0) (P.drop 4)):=(StsR.zero (by rw[← List.length_eq_zero_iff,List.length_drop];omega));have HPX4:Hid (∀ x∈P.drop 4,x.length≤140737488355328):=fun x hx=>by have:=HPX.out x (List.mem_of_mem_drop hx);omega
    have HPN4:Hid ((P.drop 4).length≤1000000):=by show _≤_;rw[List.length_drop];have:=HPN.out;omega
    obtain⟨b',off',eb,hSb3,hP3⟩:=HST7.out.at (k:=3) h4;injection eb with eb
    injection eb with eb1 eb2
    subst eb1 eb2;clear HZ2;generalize (P.drop 4)=Q at*
    generalize P[3]?.getD []=on at*
    go_upto_region 19 with fail;let S:World→Prop:=fun w'=>Below W7.heap.size W7 w'
    (refine wp_region_pre 2 7 [0,1,3,4] [2,6,5] S (by kernel_rfl) (by kernel_rfl) (by intro _ _ d _ _ h;cases d<;>exact h) ?_;simp only[xA,xB,xC,xD,xE,xF]);(repeat ((refine' wpSeq_take rfl _ (by rfl) ?_ ?_;rotate_left;focus(intro w' hS;(try dsimp only at hS);skip;go_simp;(first|done|with_reducible rfl));(try go_frame));(try go_frame)));refine wpSeq_nil ⟨Below.drew (Below.refl _ _),?_⟩;(repeat ((refine' wpSeq_take rfl _ (by rfl) ?_ ?_;rotate_left;focus(intro w' hS;(try dsimp only at hS);have q3:w'.cell? ⟨Sb,3,none⟩=some (.string (str on)):=(Below.cell hS (p:=⟨Sb,3,none⟩) hSb3).trans (by simpa using hP3);go_simp;(first|done|with_reducible rfl));(try go_frame));(try go_frame)))
    (refine wpSeq_call rfl (by rfl) (fun K hK=> ?_);go_simp;refine((q_ints Q (.slice (some ⟨Sb,0,none⟩) 0 0) _ (HSD.out.below (Below.drew (Below.refl _ _))) HPN4.out HPX4.out)).mono ?_;rintro e w8 ⟨va,vc,rfl,hv8,hf8,hB8⟩;refine hK _ _ (up (Below.drew (Below.refl _ _)) hB8) ?_;clear hK K;(try go_frame));refine wpSeq_nil ?_;clear S;have hB8':Below W7.heap.size W7 w8:=up (Below.drew (Below.refl _ _)) hB8;have HV8:=hid hv8;have HVF:Hid (∀ g,(Value.slice va (Q.map intQ).length vc).ownBlock=some g→W7.heap.size≤g):=hf8;have HB8:=hid (up HB7.out hB8');have HC8:=hid (HC7.out.below hB8');have HR8:=hid (HR7.out.below hB8')
    have hW7:Cb<W7.heap.size∧w.heap.size<W7.heap.size:=⟨lc,lr⟩;have HW7:=hid hW7;clear c0 c1 c2 c3 c4 c5 c6 c7 lc fc0 fc1 fc2 fc3 fc4 fc5 fc6 fc7 lr r0 r1 r2 r3 r4 r5 r6 r7 g0 g1 g2 g3 g4 g5 g6 g7;clear hB8 hB8' hv8 hf8 HC7 HR7 HST7 HB7 HSD hSb3 hP3 hW7;generalize Q.map intQ=vs at*
    obtain⟨c0,c1,c2,c3,c4,c5,c6,c7⟩:=Blk.q8 HC8.out;have lc:=HC8.out.lt;obtain⟨fc0,fc1,fc2,fc3,fc4,fc5,fc6,fc7⟩:=Blk.z8 HC8.out;have lr:=HR8.out.lt;obtain⟨r0,r1,r2,r3,r4,r5,r6,r7⟩:=Blk.q8 HR8.out;obtain⟨g0,g1,g2,g3,g4,g5,g6,g7⟩:=Blk.z8 HR8.out;go_upto_region 28 with fail;have hC10:=((HC8.out.set 2 (.string (str on))).set 7 (.slice va vs.length vc));simp only[xM,xJ,xK]at hC10;have HC10:=hid hC10;have HR10:=hid ((HR8.out.other HCR.out 2 (.string (str on))).other HCR.out 7 (.slice va vs.length vc));have HB10:=hid ((HB8.out.setCell (p:=⟨Cb,2,none⟩) (by have:=HSC.out;show _≤Cb;omega) (.string (str on))).setCell (p:=⟨Cb,7,none⟩) (by have:=HSC.out;show _≤Cb;omega) (.slice va vs.length vc))
    have HV10:=hid (HV8.out.putF (g:=Cb) (fun e=>by have:=HVF.out _ e;have:=HW7.out.1;omega) ((subX_set _ Cb 2 (.string (str on))).trans (subX_set _ Cb 7 (.slice va vs.length vc))));generalize (w8.setCell ⟨Cb,2,none⟩ (.string (str on))).setCell ⟨Cb,7,none⟩ (.slice va vs.length vc)=W10 at*
    clear hC10 HC8 HR8 HB8;clear c0 c1 c2 c3 c4 c5 c6 c7 lc fc0 fc1 fc2 fc3 fc4 fc5 fc6 fc7 lr r0 r1 r2 r3 r4 r5 r6 r7 g0 g1 g2 g3 g4 g5 g6 g7;obtain⟨c0,c1,c2,c3,c4,c5,c6,c7⟩:=Blk.q8 HC10.out;have lc:=HC10.out.lt;obtain⟨fc0,fc1,fc2,fc3,fc4,fc5,fc6,fc7⟩:=Blk.z8 HC10.out;have lr:=HR10.out.lt;obtain⟨r0,r1,r2,r3,r4,r5,r6,r7⟩:=Blk.q8 HR10.out;obtain⟨g0,g1,g2,g3,g4,g5,g6,g7⟩:=Blk.z8 HR10.out;go_wp2_with fail;refine bodyPost_ret (results_cellA rfl rfl (load_cmdQ (blk8 (HR10.out) _ _ _ _ _ _ _ _))) rfl ?_;rw[hz.out];exact guess_finQ (c:={cmd0 with kind:=1,name:=nm,on:=on,vals:=vs}) (HR10.out) (Nat.le_refl _) (HB10.out) (EdgesR.nil _) HV10.out (fun g e=>by rcases e with e|e;(cases e);have:=HVF.out g e;have:=HW7.out.2;omega)
   ·have hz:Hid (Z={cmd0 with kind:=1,name:=nm,on:=P[3]?.getD [],vals:=(P.drop 4).map intQ}):=HZ2.out.trans (if_pos h4)
    have h4I:(3:Int)<(P.length:Int):=by omega
    have h4N:3<P.length:=h4;have h4J:(4:Int)≤(P.length:Int):=by omega
    have HSD:Hid (StsR W7 (.slice (some ⟨Sb,4,none⟩) (P.length-4) (sc-4)) (P.drop 4)):=(by show StsR _ _ _;simpa using HST7.out.drop (j:=4) (by omega));have HPX4:Hid (∀ x∈P.drop 4,x.length≤140737488355328):=fun x hx=>by have:=HPX.out x (List.mem_of_mem_drop hx);omega
    have HPN4:Hid ((P.drop 4).length≤1000000):=by show _≤_;rw[List.length_drop];have:=HPN.out;omega
    obtain⟨b',off',eb,hSb3,hP3⟩:=HST7.out.at (k:=3) h4;injection eb with eb
    injection eb with eb1 eb2
    subst eb1 eb2;clear HZ2;generalize (P.drop 4)=Q at*
    generalize P[3]?.getD []=on at*
    go_upto_region 19 with fail;let S:World→Prop:=fun w'=>Below W7.heap.size W7 w'
    (refine wp_region_pre 2 7 [0,1,3,4] [2,6,5] S (by kernel_rfl) (by kernel_rfl) (by intro _ _ d _ _ h;cases d<;>exact h) ?_;simp only[xA,xB,xC,xD,xE,xF]);(repeat ((refine' wpSeq_take rfl _ (by rfl) ?_ ?_;rotate_left;focus(intro w' hS;(try dsimp only at hS);skip;go_simp;(first|done|with_reducible rfl));(try go_frame));(try go_frame)));refine wpSeq_nil ⟨Below.drew (Below.refl _ _),?_⟩;(repeat ((refine' wpSeq_take rfl _ (by rfl) ?_ ?_;rotate_left;focus(intro w' hS;(try dsimp only at hS);have q3:w'.cell? ⟨Sb,3,none⟩=some (.string (str on)):=(Below.cell hS (p:=⟨Sb,3,none⟩) hSb3).trans (by simpa using hP3);go_simp;(first|done|with_reducible rfl));(try go_frame));(try go_frame)))
    (refine wpSeq_call rfl (by rfl) (fun K hK=> ?_);go_simp;refine((q_ints Q (.slice (some ⟨Sb,4,none⟩) (P.length-4) (sc-4)) _ (HSD.out.below (Below.drew (Below.refl _ _))) HPN4.out HPX4.out)).mono ?_;rintro e w8 ⟨va,vc,rfl,hv8,hf8,hB8⟩;refine hK _ _ (up (Below.drew (Below.refl _ _)) hB8) ?_;clear hK K;(try go_frame));refine wpSeq_nil ?_;clear S;have hB8':Below W7.heap.size W7 w8:=up (Below.drew (Below.refl _ _)) hB8;have HV8:=hid hv8;have HVF:Hid (∀ g,(Value.slice va (Q.map intQ).length vc).ownBlock=some g→W7.heap.size≤g):=hf8;have HB8:=hid (up HB7.out hB8');have HC8:=hid (HC7.out.below hB8')
    have HR8:=hid (HR7.out.below hB8');have hW7:Cb<W7.heap.size∧w.heap.size<W7.heap.size:=⟨lc,lr⟩;have HW7:=hid hW7;clear c0 c1 c2 c3 c4 c5 c6 c7 lc fc0 fc1 fc2 fc3 fc4 fc5 fc6 fc7 lr r0 r1 r2 r3 r4 r5 r6 r7 g0 g1 g2 g3 g4 g5 g6 g7;clear hB8 hB8' hv8 hf8 HC7 HR7 HST7 HB7 HSD hSb3 hP3 hW7;generalize Q.map intQ=vs at*
    obtain⟨c0,c1,c2,c3,c4,c5,c6,c7⟩:=Blk.q8 HC8.out;have lc:=HC8.out.lt;obtain⟨fc0,fc1,fc2,fc3,fc4,fc5,fc6,fc7⟩:=Blk.z8 HC8.out;have lr:=HR8.out.lt;obtain⟨r0,r1,r2,r3,r4,r5,r6,r7⟩:=Blk.q8 HR8.out;obtain⟨g0,g1,g2,g3,g4,g5,g6,g7⟩:=Blk.z8 HR8.out;go_upto_region 28 with fail;have hC10:=((HC8.out.set 2 (.string (str on))).set 7 (.slice va vs.length vc));simp only[xM,xJ,xK]at hC10;have HC10:=hid hC10;have HR10:=hid ((HR8.out.other HCR.out 2 (.string (str on))).other HCR.out 7 (.slice va vs.length vc));have HB10:=hid ((HB8.out.setCell (p:=⟨Cb,2,none⟩) (by have:=HSC.out;show _≤Cb;omega) (.string (str on))).setCell (p:=⟨Cb,7,none⟩) (by have:=HSC.out;show _≤Cb;omega) (.slice va vs.length vc))
    have HV10:=hid (HV8.out.putF (g:=Cb) (fun e=>by have:=HVF.out _ e;have:=HW7.out.1;omega) ((subX_set _ Cb 2 (.string (str on))).trans (subX_set _ Cb 7 (.slice va vs.length vc))));generalize (w8.setCell ⟨Cb,2,none⟩ (.string (str on))).setCell ⟨Cb,7,none⟩ (.slice va vs.length vc)=W10 at*
    clear hC10 HC8 HR8 HB8;clear c0 c1 c2 c3 c4 c5 c6 c7 lc fc0 fc1 fc2 fc3 fc4 fc5 fc6 fc7 lr r0 r1 r2 r3 r4 r5 r6 r7 g0 g1 g2 g3 g4 g5 g6 g7;obtain⟨c0,c1,c2,c3,c4,c5,c6,c7⟩:=Blk.q8 HC10.out;have lc:=HC10.out.lt;obtain⟨fc0,fc1,fc2,fc3,fc4,fc5,fc6,fc7⟩:=Blk.z8 HC10.out;have lr:=HR10.out.lt;obtain⟨r0,r1,r2,r3,r4,r5,r6,r7⟩:=Blk.q8 HR10.out;obtain⟨g0,g1,g2,g3,g4,g5,g6,g7⟩:=Blk.z8 HR10.out;go_wp2_with fail;refine bodyPost_ret (results_cellA rfl rfl (load_cmdQ (blk8 (HR10.out) _ _ _ _ _ _ _ _))) rfl ?_;rw[hz.out];exact guess_finQ (c:={cmd0 with kind:=1,name:=nm,on:=on,vals:=vs}) (HR10.out) (Nat.le_refl _) (HB10.out) (EdgesR.nil _) HV10.out (fun g e=>by rcases e with e|e;(cases e);have:=HVF.out g e;have:=HW7.out.2;omega)
  ·have h4I:¬(3:Int)<(P.length:Int):=by omega
   have hz:Hid (Z={cmd0 with kind:=1,name:=nm}):=HZ2.out.trans (if_neg h4);clear HZ2;go_wp2_with fail;refine bodyPost_ret (results_cellA rfl rfl (load_cmdQ (blk8 (HR7.out) _ _ _ _ _ _ _ _))) rfl ?_;rw[hz.out];exact guess_finQ (c:={cmd0 with kind:=1,name:=nm}) (HR7.out) (Nat.le_refl _) (HB7.out) (EdgesR.nil _) (IntsR.nil _) (fun g e=>e.elim (fun e=>by cases e) (fun e=>by cases e))
 ·have hcap:P.length≤sc:=by obtain⟨_,_,e,h1,_⟩:=HST7.out;injection e with _ _ e3;omega
  by_cases h22:sc=2
  ·subst h22
   have hz:Hid (Z={cmd0 with kind:=2,name:=nm,vals:=(P.drop 2).map intQ}):=HZ2.out;have h2J:(2:Int)≤(P.length:Int):=by omega
   have HIN:=hid (q_ints (P.drop 2) (.slice (some ⟨Sb,0,none⟩) 0 0) W7 ((StsR.zero (by rw[← List.length_eq_zero_iff,List.length_drop];omega))) (by rw[List.length_drop];have:=HPN.out;omega) (fun x hx=>by have:=HPX.out x (List.mem_of_mem_drop hx);omega));clear HZ2;generalize (P.drop 2).map intQ=vs at*
   go_wp2_with fail;refine HIN.out.mono ?_;rintro e w8 ⟨va,vc,rfl,hv8,hf8,hB8⟩;have HV8:=hid hv8;have HVF:Hid (∀ g,(Value.slice va vs.length vc).ownBlock=some g→W7.heap.size≤g):=hf8;have HB8:=hid (up HB7.out hB8);have HC8:=hid (HC7.out.below hB8);have HR8:=hid (HR7.out.below hB8);have hW7:Cb<W7.heap.size∧w.heap.size<W7.heap.size:=⟨lc,lr⟩;have HW7:=hid hW7;clear c0 c1 c2 c3 c4 c5 c6 c7 lc fc0 fc1 fc2 fc3 fc4 fc5 fc6 fc7 lr r0 r1 r2 r3 r4 r5 r6 r7 g0 g1 g2 g3 g4 g5 g6 g7;clear hB8 hv8 hf8 HC7 HR7 HST7 HB7 HIN hW7;obtain⟨c0,c1,c2,c3,c4,c5,c6,c7⟩:=Blk.q8 HC8.out;have lc:=HC8.out.lt;obtain⟨fc0,fc1,fc2,fc3,fc4,fc5,fc6,fc7⟩:=Blk.z8 HC8.out
   have lr:=HR8.out.lt;obtain⟨r0,r1,r2,r3,r4,r5,r6,r7⟩:=Blk.q8 HR8.out;obtain⟨g0,g1,g2,g3,g4,g5,g6,g7⟩:=Blk.z8 HR8.out;dsimp only;go_upto_region 28 with fail;have hC10:=(HC8.out.set 7 (.slice va vs.length vc));simp only[xM,xJ,xK]at hC10;have HC10:=hid hC10;have HR10:=hid (HR8.out.other HCR.out 7 (.slice va vs.length vc));have HB10:=hid (HB8.out.setCell (p:=⟨Cb,7,none⟩) (by have:=HSC.out;show _≤Cb;omega) (.slice va vs.length vc));have HV10:=hid (HV8.out.putF (g:=Cb) (fun e=>by have:=HVF.out _ e;have:=HW7.out.1;omega) (subX_set _ Cb 7 (.slice va vs.length vc)));generalize w8.setCell ⟨Cb,7,none⟩ (.slice va vs.length vc)=W10 at*
   clear hC10 HC8 HR8 HB8;clear c0 c1 c2 c3 c4 c5 c6 c7 lc fc0 fc1 fc2 fc3 fc4 fc5 fc6 fc7 lr r0 r1 r2 r3 r4 r5 r6 r7 g0 g1 g2 g3 g4 g5 g6 g7;obtain⟨c0,c1,c2,c3,c4,c5,c6,c7⟩:=Blk.q8 HC10.out;have lc:=HC10.out.lt;obtain⟨fc0,fc1,fc2,fc3,fc4,fc5,fc6,fc7⟩:=Blk.z8 HC10.out;have lr:=HR10.out.lt;obtain⟨r0,r1,r2,r3,r4,r5,r6,r7⟩:=Blk.q8 HR10.out;obtain⟨g0,g1,g2,g3,g4,g5,g6,g7⟩:=Blk.z8 HR10.out;go_wp2_with fail;refine bodyPost_ret (results_cellA rfl rfl (load_cmdQ (blk8 (HR10.out) _ _ _ _ _ _ _ _))) rfl ?_;rw[hz.out];exact guess_finQ (c:={cmd0 with kind:=2,name:=nm,vals:=vs}) (HR10.out) (Nat.le_refl _) (HB10.out) (EdgesR.nil _) HV10.out (fun g e=>by rcases e with e|e;(cases e);have:=HVF.out g e;have:=HW7.out.2;omega)
  ·have hz:Hid (Z={cmd0 with kind:=2,name:=nm,vals:=(P.drop 2).map intQ}):=HZ2.out
   have h2J:(2:Int)≤(P.length:Int):=by omega
   have HIN:=hid (q_ints (P.drop 2) (.slice (some ⟨Sb,2,none⟩) (P.length-2) (sc-2)) W7 ((by show StsR _ _ _;simpa using HST7.out.drop (j:=2) (by omega))) (by rw[List.length_drop];have:=HPN.out;omega) (fun x hx=>by have:=HPX.out x (List.mem_of_mem_drop hx);omega));clear HZ2;generalize (P.drop 2).map intQ=vs at*
   go_wp2_with fail;refine HIN.out.mono ?_;rintro e w8 ⟨va,vc,rfl,hv8,hf8,hB8⟩;have HV8:=hid hv8;have HVF:Hid (∀ g,(Value.slice va vs.length vc).ownBlock=some g→W7.heap.size≤g):=hf8;have HB8:=hid (up HB7.out hB8);have HC8:=hid (HC7.out.below hB8);have HR8:=hid (HR7.out.below hB8);have hW7:Cb<W7.heap.size∧w.heap.size<W7.heap.size:=⟨lc,lr⟩;have HW7:=hid hW7;clear c0 c1 c2 c3 c4 c5 c6 c7 lc fc0 fc1 fc2 fc3 fc4 fc5 fc6 fc7 lr r0 r1 r2 r3 r4 r5 r6 r7 g0 g1 g2 g3 g4 g5 g6 g7;clear hB8 hv8 hf8 HC7 HR7 HST7 HB7 HIN hW7;obtain⟨c0,c1,c2,c3,c4,c5,c6,c7⟩:=Blk.q8 HC8.out;have lc:=HC8.out.lt;obtain⟨fc0,fc1,fc2,fc3,fc4,fc5,fc6,fc7⟩:=Blk.z8 HC8.out
   have lr:=HR8.out.lt;obtain⟨r0,r1,r2,r3,r4,r5,r6,r7⟩:=Blk.q8 HR8.out;obtain⟨g0,g1,g2,g3,g4,g5,g6,g7⟩:=Blk.z8 HR8.out;dsimp only;go_upto_region 28 with fail;have hC10:=(HC8.out.set 7 (.slice va vs.length vc));simp only[xM,xJ,xK]at hC10;have HC10:=hid hC10;have HR10:=hid (HR8.out.other HCR.out 7 (.slice va vs.length vc));have HB10:=hid (HB8.out.setCell (p:=⟨Cb,7,none⟩) (by have:=HSC.out;show _≤Cb;omega) (.slice va vs.length vc));have HV10:=hid (HV8.out.putF (g:=Cb) (fun e=>by have:=HVF.out _ e;have:=HW7.out.1;omega) (subX_set _ Cb 7 (.slice va vs.length vc)));generalize w8.setCell ⟨Cb,7,none⟩ (.slice va vs.length vc)=W10 at*
   clear hC10 HC8 HR8 HB8;clear c0 c1 c2 c3 c4 c5 c6 c7 lc fc0 fc1 fc2 fc3 fc4 fc5 fc6 fc7 lr r0 r1 r2 r3 r4 r5 r6 r7 g0 g1 g2 g3 g4 g5 g6 g7;obtain⟨c0,c1,c2,c3,c4,c5,c6,c7⟩:=Blk.q8 HC10.out;have lc:=HC10.out.lt;obtain⟨fc0,fc1,fc2,fc3,fc4,fc5,fc6,fc7⟩:=Blk.z8 HC10.out;have lr:=HR10.out.lt;obtain⟨r0,r1,r2,r3,r4,r5,r6,r7⟩:=Blk.q8 HR10.out;obtain⟨g0,g1,g2,g3,g4,g5,g6,g7⟩:=Blk.z8 HR10.out;go_wp2_with fail;refine bodyPost_ret (results_cellA rfl rfl (load_cmdQ (blk8 (HR10.out) _ _ _ _ _ _ _ _))) rfl ?_;rw[hz.out];exact guess_finQ (c:={cmd0 with kind:=2,name:=nm,vals:=vs}) (HR10.out) (Nat.le_refl _) (HB10.out) (EdgesR.nil _) HV10.out (fun g e=>by rcases e with e|e;(cases e);have:=HVF.out g e;have:=HW7.out.2;omega)
 ·by_cases h4:3<P.length
  ·have hz:Hid (Z={cmd0 with kind:=5,name:=nm,on:=P[2]?.getD [],other:=P[3]?.getD []}):=HZ2.out.trans (if_pos h4)
   have h4I:(3:Int)<(P.length:Int):=by omega
   have h4N:3<P.length:=h4;have h2I':(2:Int)<(P.length:Int):=by omega
   have h2N:2<P.length:=by omega
   obtain⟨b',off',eb,hSb3,hP3⟩:=HST7.out.at (k:=3) h4;injection eb with eb
   injection eb with eb1 eb2
   subst eb1 eb2;obtain⟨b',off',eb,_,hP2⟩:=HST7.out.at (k:=2) (by omega);injection eb with eb
   injection eb with eb1 eb2
   subst eb1 eb2;have HNE:Hid (Sb≠Cb):=by have:=HSC.out;show _≠_;omega
   clear HZ2;generalize P[2]?.getD []=on at*
   generalize P[3]?.getD []=ot at*
   go_upto_region 27 with fail;let S:World→Prop:=fun w'=>W7.grownBy w' (some Cb)
   (refine wp_region_pre 2 8 [0,1,3,4] [2,5,6,7] S (by kernel_rfl) (by kernel_rfl) (by intro _ _ d _ _ h;cases d<;>exact h) ?_;simp only[xA,xB,xC,xD,xE,xF]);(repeat ((refine' wpSeq_take rfl _ (by rfl) ?_ ?_;rotate_left;focus(intro w' hS;(try dsimp only at hS);skip;go_simp;(first|done|with_reducible rfl));(try go_frame));(try go_frame)));refine wpSeq_nil ⟨Below.toGrown (Below.drew (Below.refl _ _)) _,?_⟩;(repeat ((refine' wpSeq_take rfl _ (by rfl) ?_ ?_;rotate_left;focus(intro w' hS;(try dsimp only at hS);have q2:w'.cell? ⟨Sb,2,none⟩=some (.string (str on)):=(grown_cellC hS (p:=⟨Sb,2,none⟩) hSb3 HNE.out).trans (by simpa using hP2);have q3:w'.cell? ⟨Sb,3,none⟩=some (.string (str ot)):=(grown_cellC hS (p:=⟨Sb,3,none⟩) hSb3 HNE.out).trans (by simpa using hP3);go_simp;(first|done|with_reducible rfl));(try go_frame));(try go_frame)))
   (refine wpSeq_call rfl (by rfl) (fun K hK=> ?_);go_simp;refine hK _ _ (grown_tr (Below.toGrown (Below.drew (Below.refl _ _)) _) (grown_put _ _ _ _)) ?_;clear hK K;(try go_frame));refine wpSeq_nil ?_;clear S;go_upto_region 28 with fail;have hC10:=(Blk.drew ((HC7.out.set 2 (.string (str on))).set 3 (.string (str ot))));simp only[xM,xJ,xK]at hC10;have HC10:=hid hC10;have HR10:=hid (Blk.drew ((HR7.out.other HCR.out 2 (.string (str on))).other HCR.out 3 (.string (str ot))));have HB10:=hid (((HB7.out.setCell (p:=⟨Cb,2,none⟩) (by have:=HSC.out;show _≤Cb;omega) (.string (str on))).setCell (p:=⟨Cb,3,none⟩) (by have:=HSC.out;show _≤Cb;omega) (.string (str ot))).trans (Below.drew (Below.refl _ _)))
   generalize ((W7.setCell ⟨Cb,2,none⟩ (.string (str on))).setCell ⟨Cb,3,none⟩ (.string (str ot))).drew=W10 at*
   clear hC10 HC7 HR7 HB7;clear c0 c1 c2 c3 c4 c5 c6 c7 lc fc0 fc1 fc2 fc3 fc4 fc5 fc6 fc7 lr r0 r1 r2 r3 r4 r5 r6 r7 g0 g1 g2 g3 g4 g5 g6 g7;obtain⟨c0,c1,c2,c3,c4,c5,c6,c7⟩:=Blk.q8 HC10.out;have lc:=HC10.out.lt;obtain⟨fc0,fc1,fc2,fc3,fc4,fc5,fc6,fc7⟩:=Blk.z8 HC10.out;have lr:=HR10.out.lt;obtain⟨r0,r1,r2,r3,r4,r5,r6,r7⟩:=Blk.q8 HR10.out;obtain⟨g0,g1,g2,g3,g4,g5,g6,g7⟩:=Blk.z8 HR10.out;go_wp2_with fail;refine bodyPost_ret (results_cellA rfl rfl (load_cmdQ (blk8 (HR10.out) _ _ _ _ _ _ _ _))) rfl ?_;rw[hz.out];exact guess_finQ (c:={cmd0 with kind:=5,name:=nm,on:=on,other:=ot}) (HR10.out) (Nat.le_refl _) (HB10.out) (EdgesR.nil _) (IntsR.nil _) (fun g e=>e.elim (fun e=>by cases e) (fun e=>by cases e))
  ·have h4I:¬(3:Int)<(P.length:Int):=by omega
   have hz:Hid (Z={cmd0 with kind:=5,name:=nm}):=HZ2.out.trans (if_neg h4);clear HZ2;go_wp2_with fail;refine bodyPost_ret (results_cellA rfl rfl (load_cmdQ (blk8 (HR7.out) _ _ _ _ _ _ _ _))) rfl ?_;rw[hz.out];exact guess_finQ (c:={cmd0 with kind:=5,name:=nm}) (HR7.out) (Nat.le_refl _) (HB7.out) (EdgesR.nil _) (IntsR.nil _) (fun g e=>e.elim (fun e=>by cases e) (fun e=>by cases e))
end Go.Proofs.YtclgllmipcbagaaGreatDoor
