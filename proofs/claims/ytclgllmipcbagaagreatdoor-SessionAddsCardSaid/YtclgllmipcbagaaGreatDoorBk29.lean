/-
  Parts of the proof: XU8 XRd XUr XUe
-/
import Derived.Test.YtclgllmipcbagaaGreatDoorBk24
import Derived.Test.YtclgllmipcbagaaGreatDoorBk28
import Derived.Test.YtclgllmipcbagaaGreatDoorBk16
import Derived.Test.YtclgllmipcbagaaGreatDoorRows
import Derived.ProofKit
import Derived.OpenShut
import Derived.ChangeOld
import Derived.Below
import Derived.Carry
import Derived.SizedLaws
import Derived.Lib.SmallJoins
import Derived.Deep.Slices
import Derived.Deep.SlicePairs
import Derived.Deep.Fields
import Derived.WalkKit
import Derived.Test.YtclgllmipcbagaaGreatDoorBk00
import Derived.Deep.Strs
import Derived.Test.YtclgllmipcbagaaGreatDoorBk23
import Derived.Test.YtclgllmipcbagaaGreatDoorBk20
import Derived.Stop.LaidErr
import Derived.Lib.LaidTab
import Derived.MakeChecks
import Derived.Test.YtclgllmipcbagaaGreatDoorTie
import Derived.Test.YtclgllmipcbagaaGreatDoorCards
import Derived.LaidMore
import Derived.Lay
import Derived.SevenTiedAt
import Derived.Stop.Joined
import Derived.HandedShaped
import Derived.Shelf.Vars
namespace Go.Proofs.YtclgllmipcbagaaGreatDoor
open Go.RowKit
set_option linter.unusedVariables false
set_option linter.unusedSimpArgs false
set_option maxRecDepth 100000
set_option maxHeartbeats 16000000
def exL:List Cmd:=[exLet,exPut,exStab]
def exAt:Nat→Ses
 |0=>ses0
 |1=>exS1
 |2=>exS2
 |_=>exS3
theorem ex_all:allG doG 0 ses0 exL=(exS3,0,0):=by
 show(if (doG ses0 exLet).1≠0 then _ else(if (doG (doG ses0 exLet).2 exPut).1≠0 then _ else(if (doG (doG (doG ses0 exLet).2 exPut).2 exStab).1≠0 then _ else((doG (doG (doG ses0 exLet).2 exPut).2 exStab).2,(0:Int),(0:Int)))))=_;rw[ex_let,ex_put,ex_stab];rfl
theorem ex_step:∀k s,k<exL.length→s=exAt k→(doG s (exL[k]?.getD default)).1=0→(doG s (exL[k]?.getD default)).2=exAt (k+1)
 |0,s,_,h,_=>by subst h;show(doG ses0 exLet).2=_;rw[ex_let];rfl
 |1,s,_,h,_=>by subst h;show(doG exS1 exPut).2=_;rw[ex_put];rfl
 |2,s,_,h,_=>by subst h;show(doG exS2 exStab).2=_;rw[ex_stab];rfl
 |k+3,s,h,_,_=>by simp[exL]at h;omega
theorem ex_small:∀k,SmSes (exAt k)
 |0=>by simp only[exAt,SmSes,SmObs,SmLs,SmOb];decide
 |1=>by simp only[exAt,SmSes,SmObs,SmLs,SmOb];decide
 |2=>by simp only[exAt,SmSes,SmObs,SmLs,SmOb];decide
 |k+3=>by simp only[exAt,SmSes,SmObs,SmLs,SmOb];decide
theorem ex_small4:SmSes exS4:=by simp only[SmSes,SmObs,SmLs,SmOb];decide
theorem ex_smcmd:∀k,k<exL.length→SmCmd (exL[k]?.getD default)∧((exL[k]?.getD default).kind=0∨(exL[k]?.getD default).kind=1∨(exL[k]?.getD default).kind=3∨(exL[k]?.getD default).kind=7)
 |0,_=>⟨by simp only[SmCmd];decide,by decide⟩
 |1,_=>⟨by simp only[SmCmd];decide,by decide⟩
 |2,_=>⟨by simp only[SmCmd];decide,by decide⟩
 |k+3,h=>by simp[exL]at h;omega
theorem ex_find3:findErr exS3 [100]=0∧findB exS3 [100]=⟨[100],[97],⟨0,[]⟩,[0,1,1]⟩:=⟨by kernel_rfl,by kernel_rfl⟩
theorem ex_find4:findErr exS4 [100]=0∧findB exS4 [100]=⟨[100],[97],⟨0,[]⟩,[2,0,0]⟩:=⟨by kernel_rfl,by kernel_rfl⟩
theorem ex_cmds (w1:World)(ta:Option Addr)(hT:EdgesR w1 (.slice ta 3 3) triG.es):Below w1.heap.size w1 ((w1.alloc (.cells #[.int .i64 2,.int .i64 0,.int .i64 0] 3)).alloc (.cells #[.int .i64 0,.string {data:= #[97]},.string {data:= #[]},.string {data:= #[]},.int .i64 0,.int .i64 3,.slice ta 3 3,.slice none 0 0,.int .i64 1,.string {data:= #[100]},.string {data:= #[97]},.string {data:= #[]},.int .i64 0,.int .i64 0,.slice none 0 0,.slice (some ⟨w1.heap.size,0,none⟩) 3 3,.int .i64 3,.string {data:= #[100]},.string {data:= #[]},.string {data:= #[]},.int .i64 1,.int .i64 0,.slice none 0 0,.slice none 0 0] 31))∧CmsR ((w1.alloc (.cells #[.int .i64 2,.int .i64 0,.int .i64 0] 3)).alloc (.cells #[.int .i64 0,.string {data:= #[97]},.string {data:= #[]},.string {data:= #[]},.int .i64 0,.int .i64 3,.slice ta 3 3,.slice none 0 0,.int .i64 1,.string {data:= #[100]},.string {data:= #[97]},.string {data:= #[]},.int .i64 0,.int .i64 0,.slice none 0 0,.slice (some ⟨w1.heap.size,0,none⟩) 3 3,.int .i64 3,.string {data:= #[100]},.string {data:= #[]},.string {data:= #[]},.int .i64 1,.int .i64 0,.slice none 0 0,.slice none 0 0] 31)) (.slice (some ⟨w1.heap.size+1,0,none⟩) 3 3) exL:=by
 have hB:Below w1.heap.size w1 ((w1.alloc (.cells #[.int .i64 2,.int .i64 0,.int .i64 0] 3)).alloc (.cells #[.int .i64 0,.string {data:= #[97]},.string {data:= #[]},.string {data:= #[]},.int .i64 0,.int .i64 3,.slice ta 3 3,.slice none 0 0,.int .i64 1,.string {data:= #[100]},.string {data:= #[97]},.string {data:= #[]},.int .i64 0,.int .i64 0,.slice none 0 0,.slice (some ⟨w1.heap.size,0,none⟩) 3 3,.int .i64 3,.string {data:= #[100]},.string {data:= #[]},.string {data:= #[]},.int .i64 1,.int .i64 0,.slice none 0 0,.slice none 0 0] 31)):=by go_grown
 have h1:=(Blk.new w1 #[.int .i64 2,.int .i64 0,.int .i64 0] 3).alloc (.cells #[.int .i64 0,.string {data:= #[97]},.string {data:= #[]},.string {data:= #[]},.int .i64 0,.int .i64 3,.slice ta 3 3,.slice none 0 0,.int .i64 1,.string {data:= #[100]},.string {data:= #[97]},.string {data:= #[]},.int .i64 0,.int .i64 0,.slice none 0 0,.slice (some ⟨w1.heap.size,0,none⟩) 3 3,.int .i64 3,.string {data:= #[100]},.string {data:= #[]},.string {data:= #[]},.int .i64 1,.int .i64 0,.slice none 0 0,.slice none 0 0] 31);have h2:=Blk.new (w1.alloc (.cells #[.int .i64 2,.int .i64 0,.int .i64 0] 3)) #[.int .i64 0,.string {data:= #[97]},.string {data:= #[]},.string {data:= #[]},.int .i64 0,.int .i64 3,.slice ta 3 3,.slice none 0 0,.int .i64 1,.string {data:= #[100]},.string {data:= #[97]},.string {data:= #[]},.int .i64 0,.int .i64 0,.slice none 0 0,.slice (some ⟨w1.heap.size,0,none⟩) 3 3,.int .i64 3,.string {data:= #[100]},.string {data:= #[]},.string {data:= #[]},.int .i64 1,.int .i64 0,.slice none 0 0,.slice none 0 0] 31
 rw[World.size_alloc]at h2;refine⟨hB,_,_,_,rfl,Nat.le_refl _,by decide,by decide,.inr ⟨w1.heap.size+1,0,rfl,h2.lt,fun i hi=>by rw[Nat.zero_add,h2.cell i,List.getElem?_toArray]⟩,rfl,fun k hk=> ?_⟩;match k,hk with
 |0,_=>exact⟨_,_,rfl,hT.below hB,IntsR.nil _⟩
 |1,_=>
  refine⟨_,_,rfl,EdgesR.nil _,⟨_,_,rfl,Nat.le_refl _,by decide,by decide,.inr ⟨w1.heap.size,0,rfl,h1.lt,fun i hi=>by rw[Nat.zero_add,h1.cell i,List.getElem?_toArray];rfl⟩⟩⟩
 |2,_=>exact⟨_,_,rfl,EdgesR.nil _,IntsR.nil _⟩
 |k+3,h=>simp[exL]at h;omega
theorem IntsR.put3 {w:World}{g:Nat}{v v0 v1 v2:Value}{l:List Int}{T:TypeId}(h:IntsR w v l)(hb:Blk w g #[v0,v1,v2] T)(h0:∃a n c,v0= .slice a n c)(h1:∃a n c,v1= .slice a n c)(h2:∃a n c,v2= .slice a n c)(y0 y1 y2:Value):
 IntsR (((w.setCell ⟨g,0,none⟩ y0).setCell ⟨g,1,none⟩ y1).setCell ⟨g,2,none⟩ y2) v l:=
 ((h.outS (Slc.blk hb h0 h1 h2)).sub ((subX_set w g 0 y0).trans ((subX_set _ g 1 y1).trans (subX_set _ g 2 y2))).mask).sub (sub_unmask _ _)
theorem ints_new3 (w:World)(a b c:Int):IntsR (w.alloc (.cells #[.int .i64 a,.int .i64 b,.int .i64 c] 3)) (.slice (some ⟨w.heap.size,0,none⟩) 3 3) [a,b,c]:=
 ⟨_,_,rfl,Nat.le_refl _,by decide,by simp,.inr ⟨w.heap.size,0,rfl,by simp,fun i hi=>by rw[Nat.zero_add,(Blk.new w _ _).cell i,List.getElem?_toArray];rfl⟩⟩
theorem eq_new3 (a b c:Int)(av:Value)(w:World)(ha:IntsR w av [a,b,c]):
 Calls Tryz.prog 52 #[av,.slice (some ⟨w.heap.size,0,none⟩) 3 3] (w.alloc (.cells #[.int .i64 a,.int .i64 b,.int .i64 c] 3)) fun e w'=>e= .returned (.bool true)∧Below w.heap.size w w':=by
 have hB:Below w.heap.size w (w.alloc (.cells #[.int .i64 a,.int .i64 b,.int .i64 c] 3)):=by go_grown
 refine(c_EqualD [a,b,c] [a,b,c] _ _ _ (ha.below hB) (ints_new3 w a b c)).mono ?_;rintro e w' ⟨rfl,h⟩;exact⟨by simp,up hB h⟩
def exT:List (List UInt8):=[[108,101,116,32,97,32,103,114,97,112,104,32,51,58,32,48,45,49,32,48,45,50,32,49,45,50],[112,117,116,32,100,32,111,110,32,97,32,50,32,48,32,48],[115,116,97,98,105,108,105,122,101,32,100,32,97,116,32,49]]
theorem ex_texts:∀k,k<exL.length→textR (exL[k]?.getD default)=(0,exT[k]?.getD [])
 |0,_=>by kernel_rfl
 |1,_=>by kernel_rfl
 |2,_=>by kernel_rfl
 |k+3,h=>by simp[exL]at h;omega
theorem ex_textl:∀k:Nat,(exT[k]?.getD []).length≤100
 |0=>by decide
 |1=>by decide
 |2=>by decide
 |k+3=>by simp[exT]
theorem l_awakeS (w:World)(hE:EnvS w):Calls Tryz.prog 15 #[] w fun e w'=>e= .returned (.bool true)∧Below w.heap.size w w':=by
 have HE:=hid hE;clear hE;go_enter Tryz.func15,Tryz.ntmps15;go_wp2_with fail;refine(l_Tri _).mono ?_;rintro e w1 ⟨ta,rfl,hT,hB1⟩;obtain⟨hB2,hC2⟩:=ex_cmds w1 ta hT;have HB2:=hid (up hB1 hB2);have HC2:=hid hC2;clear hB1 hT hC2;dsimp only;go_upto_region 2 with fail;generalize ((w1.alloc (.cells #[.int .i64 2,.int .i64 0,.int .i64 0] 3)).alloc (.cells #[.int .i64 0,.string {data:= #[97]},.string {data:= #[]},.string {data:= #[]},.int .i64 0,.int .i64 3,.slice ta 3 3,.slice none 0 0,.int .i64 1,.string {data:= #[100]},.string {data:= #[97]},.string {data:= #[]},.int .i64 0,.int .i64 0,.slice none 0 0,.slice (some ⟨w1.heap.size,0,none⟩) 3 3,.int .i64 3,.string {data:= #[100]},.string {data:= #[]},.string {data:= #[]},.int .i64 1,.int .i64 0,.slice none 0 0,.slice none 0 0] 31))=W2 at*
 generalize w1.heap.size+1=Lb at*
 clear hB2;have HAL:=hid (s_All exL _ doG (fun k s=>s=exAt k) W2 HC2.out (by decide) rfl ex_step (fun W sv cv k s hk hB hs hc hI=>by subst hI;exact s_DoG _ _ _ _ W hs hc (ex_small k) (ex_smcmd k hk).1 (ex_smcmd k hk).2));rw[ex_all]at HAL;go_wp2_with fail;refine HAL.out.mono ?_;rintro e w3 ⟨oa,oc,pa,pc,fa,fc,rfl,hS3,hp3,hf3,hB3⟩;have HSR3:Hid (SesR w3 (.agg #[.slice oa 2 oc,.slice pa 3 pc,.slice fa 0 fc]) exS3):=hS3;have HW3:=hid hB3;clear hS3 hp3 hf3 hB3 HAL;have e1:exS3.obs.length=2:=rfl;have e2:exS3.past.length=3:=rfl;have e3:exS3.fut.length=0:=rfl;dsimp only;go_upto_region 3 with fail;clear e1 e2 e3
 have HS4:=hid (Blk.new w3 #[.slice oa 2 oc,.slice pa 3 pc,.slice fa 0 fc] 25);have hB4:Below w3.heap.size w3 (w3.alloc (.cells #[.slice oa 2 oc,.slice pa 3 pc,.slice fa 0 fc] 25)):=by go_grown
 have HW4:=hid (up HW3.out hB4);have HSR4:=hid (HSR3.out.below hB4);have hSb:W2.heap.size≤w3.heap.size:=HW3.out.size;generalize w3.alloc (.cells #[.slice oa 2 oc,.slice pa 3 pc,.slice fa 0 fc] 25)=W4 at*
 generalize w3.heap.size=Sb at*
 have HSB:=hid hSb;clear hB4 HW3 HSR3 hSb;have ls:=HS4.out.lt;have s0:=HS4.out.cell 0;have s1:=HS4.out.cell 1;have s2:=HS4.out.cell 2;simp only[xG,xH,xI]at s0 s1 s2;have HF:=hid (s_Find exS3 _ [100] W4 HSR4.out (ex_small 3));unfold RetFind at HF;rw[ex_find3.1,ex_find3.2]at HF;go_wp2_with fail;refine HF.out.mono ?_;rintro e w5 ⟨v,rfl,⟨ev,dv,rfl,he,hd⟩,hB5⟩;obtain⟨ea,ec,rfl,_⟩:=id he;obtain⟨da,dc,rfl,_⟩:=id hd;have HD5:Hid (IntsR w5 (.slice da 3 dc) [0,1,1]):=hd;have HW5:=hid (up HW4.out hB5);have HSR5:=hid (HSR4.out.below hB5);have HS5:=hid (HS4.out.below hB5);clear he hd hB5 HF HW4 HSR4 HS4 ls s0 s1 s2
 dsimp only;go_upto_region 4 with fail;have HX6:=hid (Blk.new w5 #[.string (str [100]),.string (str [97]),.int .i64 0,.slice ea 0 ec,.slice da 3 dc] 67);have hB6:Below w5.heap.size w5 (w5.alloc (.cells #[.string (str [100]),.string (str [97]),.int .i64 0,.slice ea 0 ec,.slice da 3 dc] 67)):=by go_grown
 have HW6:=hid (up HW5.out hB6);have HSR6:=hid (HSR5.out.below hB6);have HS6:=hid (HS5.out.below hB6);have HD6:=hid (HD5.out.below hB6);have hXS:Sb<w5.heap.size:=HS5.out.lt;generalize w5.alloc (.cells #[.string (str [100]),.string (str [97]),.int .i64 0,.slice ea 0 ec,.slice da 3 dc] 67)=W6 at*
 generalize w5.heap.size=Xb at*
 have HXS:=hid hXS;clear hB6 HW5 HSR5 HS5 HD5 hXS;have ls:=HS6.out.lt;have s0:=HS6.out.cell 0;have s1:=HS6.out.cell 1;have s2:=HS6.out.cell 2;simp only[xG,xH,xI]at s0 s1 s2;have HDO:=hid (s_DoG exS3 exUndo _ (.agg #[.int .i64 7,.string {data:= #[]},.string {data:= #[]},.string {data:= #[]},.int .i64 0,.int .i64 0,.slice none 0 0,.slice none 0 0]) W6 HSR6.out ⟨_,_,rfl,EdgesR.nil _,IntsR.nil _⟩ (ex_small 3) (by simp only[SmCmd];decide) (.inr (.inr (.inr rfl))));rw[ex_undo]at HDO;go_wp2_with fail;refine HDO.out.mono ?_;rintro e w7 ⟨na,nc,pa2,pc2,fa2,fc2,rfl,hS7,hp7,hf7,hB7⟩;have HSR7:Hid (SesR w7 (.agg #[.slice na 2 nc,.slice pa2 2 pc2,.slice fa2 1 fc2]) exS4):=hS7
 have HP7:Hid (∀ g,(Value.slice pa2 2 pc2).ownBlock=some g→W6.heap.size≤g):=hp7;have HF7:Hid (∀ g,(Value.slice fa2 1 fc2).ownBlock=some g→W6.heap.size≤g):=hf7;have HSL:Hid (Sb<W6.heap.size):=ls;have HW7:=hid (up HW6.out hB7);have HS7:=hid (HS6.out.below hB7);have HX7:=hid (HX6.out.below hB7);have HD7:=hid (HD6.out.below hB7);clear hS7 hp7 hf7 hB7 HDO HW6 HSR6 HS6 HX6 HD6 ls s0 s1 s2;have e1:exS4.obs.length=2:=rfl;have e2:exS4.past.length=2:=rfl;have e3:exS4.fut.length=1:=rfl;have ls:=HS7.out.lt;have s0:=HS7.out.cell 0;have s1:=HS7.out.cell 1;have s2:=HS7.out.cell 2;have f0:=HS7.out.frozen 0;have f1:=HS7.out.frozen 1
 have f2:=HS7.out.frozen 2;simp only[xG,xH,xI]at s0 s1 s2;dsimp only;go_upto_region 5 with fail;clear e1 e2 e3 ls s0 s1 s2 f0 f1 f2;have HSR8:=hid (HSR7.out.put3 (Slc.blk HS7.out ⟨_,_,_,rfl⟩ ⟨_,_,_,rfl⟩ ⟨_,_,_,rfl⟩) (fun g e=>by have:=HP7.out g e;have:=HSL.out;omega) (fun g e=>by have:=HF7.out g e;have:=HSL.out;omega) (.slice na 2 nc) (.slice pa2 2 pc2) (.slice fa2 1 fc2));have HS8:=hid (blk3 HS7.out (.slice na 2 nc) (.slice pa2 2 pc2) (.slice fa2 1 fc2));have hne:Xb≠Sb:=by have:=HXS.out;omega
 have HX8:=hid (((HX7.out.other hne 0 (.slice na 2 nc)).other hne 1 (.slice pa2 2 pc2)).other hne 2 (.slice fa2 1 fc2));have HD8:=hid (HD7.out.put3 HS7.out ⟨_,_,_,rfl⟩ ⟨_,_,_,rfl⟩ ⟨_,_,_,rfl⟩ (.slice na 2 nc) (.slice pa2 2 pc2) (.slice fa2 1 fc2));have HW8:=hid (below3 HW7.out HSB.out (.slice na 2 nc) (.slice pa2 2 pc2) (.slice fa2 1 fc2));generalize ((w7.setCell ⟨Sb,0,none⟩ (.slice na 2 nc)).setCell ⟨Sb,1,none⟩ (.slice pa2 2 pc2)).setCell ⟨Sb,2,none⟩ (.slice fa2 1 fc2)=W8 at*
 clear hne HSR7 HS7 HX7 HD7 HW7 HP7 HF7 HSL;have ls:=HS8.out.lt;have s0:=HS8.out.cell 0;have s1:=HS8.out.cell 1;have s2:=HS8.out.cell 2;simp only[xG,xH,xI]at s0 s1 s2;have HF:=hid (s_Find exS4 _ [100] W8 HSR8.out ex_small4);unfold RetFind at HF;rw[ex_find4.1,ex_find4.2]at HF;go_wp2_with fail;refine HF.out.mono ?_;rintro e w9 ⟨v,rfl,⟨ev,dv,rfl,he,hd⟩,hB9⟩;obtain⟨ya,yc,rfl,_⟩:=id he;obtain⟨za,zc,rfl,_⟩:=id hd;have HE9:Hid (IntsR w9 (.slice za 3 zc) [2,0,0]):=hd;have HW9:=hid (up HW8.out hB9);have HX9:=hid (HX8.out.below hB9);have HD9:=hid (HD8.out.below hB9);clear he hd hB9 HF HW8 HSR8 HS8 HX8 HD8 ls s0 s1 s2
 dsimp only;go_upto_region 6 with fail;have HY10:=hid (Blk.new w9 #[.string (str [100]),.string (str [97]),.int .i64 0,.slice ya 0 yc,.slice za 3 zc] 67);have hB10:Below w9.heap.size w9 (w9.alloc (.cells #[.string (str [100]),.string (str [97]),.int .i64 0,.slice ya 0 yc,.slice za 3 zc] 67)):=by go_grown
 have HW10:=hid (up HW9.out hB10);have HX10:=hid (HX9.out.below hB10);have HD10:=hid (HD9.out.below hB10);have HE10:=hid (HE9.out.below hB10);generalize w9.alloc (.cells #[.string (str [100]),.string (str [97]),.int .i64 0,.slice ya 0 yc,.slice za 3 zc] 67)=W10 at*
 generalize w9.heap.size=Yb at*
 clear hB10 HW9 HX9 HD9 HE9;have lx:=HX10.out.lt;have x4:=HX10.out.cell 4;simp only[xG,xH,xI]at x4;go_wp2_with fail;refine(eq_new3 0 1 1 _ W10 HD10.out).mono ?_;rintro e w11 ⟨rfl,hB11⟩;have HW11:=hid (up HW10.out hB11);have HY11:=hid (HY10.out.below hB11);have HE11:=hid (HE10.out.below hB11);clear hB11 HW10 HX10 HD10 HE10 HY10 lx x4;have ly:=HY11.out.lt;have y4:=HY11.out.cell 4;simp only[xG,xH,xI]at y4;dsimp only;go_wp2_with fail;refine(eq_new3 2 0 0 _ w11 HE11.out).mono ?_;rintro e w12 ⟨rfl,hB12⟩;have HW12:=hid (up HW11.out hB12);have HY12:=hid (HY11.out.below hB12);clear hB12 HW11 HE11 HY11 ly y4
 have ly:=HY12.out.lt;have y1:w12.cell? ⟨Yb,1,none⟩=some (.string {data:= #[97]}):=(HY12.out.cell 1).trans rfl;dsimp only;go_upto_region 8 with fail;go_wp2_with fail;have HT13:=hid (Blk.new w12 #[.string {data:= #[108,101,116,32,97,32,103,114,97,112,104,32,51,58,32,48,45,49,32,48,45,50,32,49,45,50]},.string {data:= #[112,117,116,32,100,32,111,110,32,97,32,50,32,48,32,48]},.string {data:= #[115,116,97,98,105,108,105,122,101,32,100,32,97,116,32,49]}] 9);have hB13:Below w12.heap.size w12 (w12.alloc (.cells #[.string {data:= #[108,101,116,32,97,32,103,114,97,112,104,32,51,58,32,48,45,49,32,48,45,50,32,49,45,50]},.string {data:= #[112,117,116,32,100,32,111,110,32,97,32,50,32,48,32,48]},.string {data:= #[115,116,97,98,105,108,105,122,101,32,100,32,97,116,32,49]}] 9)):=by go_grown
 have HW13:=hid (up HW12.out hB13);generalize w12.alloc (.cells #[.string {data:= #[108,101,116,32,97,32,103,114,97,112,104,32,51,58,32,48,45,49,32,48,45,50,32,49,45,50]},.string {data:= #[112,117,116,32,100,32,111,110,32,97,32,50,32,48,32,48]},.string {data:= #[115,116,97,98,105,108,105,122,101,32,100,32,97,116,32,49]}] 9)=W13 at*
 generalize w12.heap.size=Tb at*
 clear hB13 HW12 HY12 ly y1;go_loopw [73] (fun i wr=>∃k:Nat,k≤3∧i= .int .i64 k∧Hid (Below W13.heap.size W13 wr)) (fun i _=>3-(intOf i).toNat);case atStart=>exact⟨0,Nat.zero_le _,rfl,Below.refl _ _⟩
 case round=>
  obtain⟨k,hk,rfl,HB⟩:=hrel;obtain⟨Wr,rfl⟩:∃W:World,W=wr:=⟨_,rfl⟩;have HWr:=hid (up HW13.out HB.out);have HEr:=hid (HE.out.below (up HB2.out HWr.out));by_cases hlt:k<3
  ·have hlt':(k:Int)<3:=by omega
   have hk0:(0:Int)≤(k:Int):=by omega
   have hkl:k<exL.length:=hlt;obtain⟨b,off,ea,ec,va,vc,eb,hb2,hb,c0,c1,c2,c3,c4,c5,c6,c7,he,hv⟩:=HC2.out.atB HWr.out k hkl;injection eb with eb
   injection eb with eb1 eb2
   subst eb1 eb2;simp only[Nat.zero_add]at c0 c1 c2 c3 c4 c5 c6 c7;have HCC:=hid (fun (W:World) (h:Below W2.heap.size W2 W)=>HC2.out.atB h k hkl);have htx:=ex_texts k hkl;have htl:=ex_textl k;have hsm:=(ex_smcmd k hkl).1;have hck:Wr.cell? ⟨Tb,k,none⟩=some (.string (str (exT[k]?.getD []))):=by
    rw[(HT13.out.below HB.out).cell k];match k,hlt with
    |0,_=>rfl
    |1,_=>rfl
    |2,_=>rfl
   have hTl:=(HT13.out.below HB.out).lt;have HEV:=hid he;have HVV:=hid hv;clear he hv hkl;generalize exL[k]?.getD default=c at*
   generalize exT[k]?.getD []=tx at*
   have HRD:=hid (readP_text (c:=c) (by rw[htx]));rw[htx]at HRD;have HTX:=hid (s_Text c (.agg #[.int .i64 c.kind,.string (str c.name),.string (str c.on),.string (str c.other),.int .i64 c.q,.int .i64 c.g.n,.slice ea c.g.es.length ec,.slice va c.vals.length vc]) Wr HEr.out.env ⟨_,_,rfl,HEV.out.below HWr.out,HVV.out.below HWr.out⟩ hsm);rw[htx]at HTX;unfold limV at HTX;have HTL:=hid htl;clear htx hsm htl;go_wp2_with fail;refine HTX.out.mono ?_;rintro e w14 ⟨rfl,hB14⟩;have HB14:=hid (up HB.out hB14);have HW14:=hid (up HWr.out hB14);clear HTX hB14 c0 c1 c2 c3 c4 c5 c6 c7 hck hTl hb;dsimp only;go_wp2_with fail
   have HRE:=hid (s_Read tx w14 (HE.out.below (up HB2.out HW14.out)) (by have:=HTL.out;omega));unfold RetRead at HRE;have hrd:readP tx=(0,c):=HRD.out;rw[hrd]at HRE;clear hrd;refine HRE.out.mono ?_;rintro e w15 ⟨v,rfl,hc15,hB15⟩;obtain⟨ra,rc,qa,qc,rfl,hre,hrv⟩:=hc15.form;have HRE15:=hid hre;have HRV15:=hid hrv;have HB15:=hid (up HB14.out hB15);have HW15:=hid (up HW14.out hB15);clear HRE hB15 hc15 hre hrv HB14 HW14;dsimp only;go_upto_region 13 with fail;have HN16:=hid (Blk.new w15 #[.int .i64 c.kind,.string (str c.name),.string (str c.on),.string (str c.other),.int .i64 c.q,.int .i64 c.g.n,.slice ra c.g.es.length rc,.slice qa c.vals.length qc] 31)
   have hB16:Below w15.heap.size w15 (w15.alloc (.cells #[.int .i64 c.kind,.string (str c.name),.string (str c.on),.string (str c.other),.int .i64 c.q,.int .i64 c.g.n,.slice ra c.g.es.length rc,.slice qa c.vals.length qc] 31)):=by go_grown
   have HB16:=hid (up HB15.out hB16);have HW16:=hid (up HW15.out hB16);have HRE16:=hid (HRE15.out.below hB16);have HRV16:=hid (HRV15.out.below hB16);generalize w15.alloc (.cells #[.int .i64 c.kind,.string (str c.name),.string (str c.on),.string (str c.other),.int .i64 c.q,.int .i64 c.g.n,.slice ra c.g.es.length rc,.slice qa c.vals.length qc] 31)=W16 at*
   generalize w15.heap.size=Rb at*
   clear hB16 HB15 HW15 HRE15 HRV15;obtain⟨b',off',ea',ec',va',vc',eb,_,lb,c0,c1,c2,c3,c4,c5,c6,c7,he',hv'⟩:=HCC.out W16 HW16.out;injection eb with eb
   injection eb with eb1 eb2
   subst eb1 eb2;simp only[Nat.zero_add]at c0 c1 c2 c3 c4 c5 c6 c7;have HEV':=hid he';have HVV':=hid hv';clear he' hv' HCC;have lr:=HN16.out.lt;have r0:=HN16.out.cell 0;have r1:=HN16.out.cell 1;have r2:=HN16.out.cell 2;have r3:=HN16.out.cell 3;have r4:=HN16.out.cell 4;have r5:=HN16.out.cell 5;have r6:=HN16.out.cell 6;have r7:=HN16.out.cell 7;simp only[xG,xH,xI]at r0 r1 r2 r3 r4 r5 r6 r7;let S:World→Prop:=fun w'=>Below W16.heap.size W16 w'
   (refine wp_region_pre 2 15 [0,1,2,3,4,5,6,7,8,9,11,12,13] [10,14] S (by kernel_rfl) (by kernel_rfl) (by intro _ _ d _ _ h;cases d<;>exact h) ?_;simp only[xA,xB,xC,xD,xE,xF]);(repeat ((refine' wpSeq_take rfl _ (by rfl) ?_ ?_;rotate_left;focus(intro w' hS;(try dsimp only at hS);skip;go_simp;(first|done|with_reducible rfl));(try go_frame));(try go_frame)));refine wpSeq_nil ⟨Below.drew (Below.refl _ _),?_⟩;(repeat ((refine' wpSeq_take rfl _ (by rfl) ?_ ?_;rotate_left;focus(intro w' hS;(try dsimp only at hS);have q0:w'.cell? ⟨Rb,0,none⟩=_:=(Below.cell hS (p:=⟨Rb,0,none⟩) lr).trans r0;have q1:w'.cell? ⟨Rb,1,none⟩=_:=(Below.cell hS (p:=⟨Rb,1,none⟩) lr).trans r1;have q2:w'.cell? ⟨Rb,2,none⟩=_:=(Below.cell hS (p:=⟨Rb,2,none⟩) lr).trans r2;have q3:w'.cell? ⟨Rb,3,none⟩=_:=(Below.cell hS (p:=⟨Rb,3,none⟩) lr).trans r3;have q4:w'.cell? ⟨Rb,4,none⟩=_:=(Below.cell hS (p:=⟨Rb,4,none⟩) lr).trans r4;have q5:w'.cell? ⟨Rb,5,none⟩=_:=(Below.cell hS (p:=⟨Rb,5,none⟩) lr).trans r5;have q6:w'.cell? ⟨Rb,6,none⟩=_:=(Below.cell hS (p:=⟨Rb,6,none⟩) lr).trans r6;have q7:w'.cell? ⟨Rb,7,none⟩=_:=(Below.cell hS (p:=⟨Rb,7,none⟩) lr).trans r7;have p0:w'.cell? ⟨Lb,k*8,none⟩=_:=(Below.cell hS (p:=⟨Lb,k*8,none⟩) lb).trans c0;have p1:w'.cell? ⟨Lb,k*8+1,none⟩=_:=(Below.cell hS (p:=⟨Lb,k*8+1,none⟩) lb).trans c1;have p2:w'.cell? ⟨Lb,k*8+2,none⟩=_:=(Below.cell hS (p:=⟨Lb,k*8+2,none⟩) lb).trans c2;have p3:w'.cell? ⟨Lb,k*8+3,none⟩=_:=(Below.cell hS (p:=⟨Lb,k*8+3,none⟩) lb).trans c3;have p4:w'.cell? ⟨Lb,k*8+4,none⟩=_:=(Below.cell hS (p:=⟨Lb,k*8+4,none⟩) lb).trans c4;have p5:w'.cell? ⟨Lb,k*8+5,none⟩=_:=(Below.cell hS (p:=⟨Lb,k*8+5,none⟩) lb).trans c5;have p6:w'.cell? ⟨Lb,k*8+6,none⟩=_:=(Below.cell hS (p:=⟨Lb,k*8+6,none⟩) lb).trans c6;have p7:w'.cell? ⟨Lb,k*8+7,none⟩=_:=(Below.cell hS (p:=⟨Lb,k*8+7,none⟩) lb).trans c7;go_simp;(first|done|with_reducible rfl));(try go_frame));(try go_frame)))
   refine wpSeq_nil ?_;clear S;go_wp2_with fail;refine(q_SameCmd c _ _ _ ⟨_,_,rfl,HRE16.out.below (Below.drew (Below.refl _ _)),HRV16.out.below (Below.drew (Below.refl _ _))⟩ ⟨_,_,rfl,(HEV'.out.below HW16.out).below (Below.drew (Below.refl _ _)),(HVV'.out.below HW16.out).below (Below.drew (Below.refl _ _))⟩).mono ?_;rintro e w17 ⟨rfl,hB17⟩;have HB17:=hid (up HB16.out (up (Below.drew (Below.refl _ _)) hB17));clear hB17;dsimp only;go_wp2_with fail;go_roundw;case rel=>exact⟨k+1,by omega,by go_num,HB17⟩
   case measure=>simp[intOf];omega
  ·obtain rfl:k=3:=by omega
   have S0:=hid (s_Sum [] Wr (by decide));go_wp2_with fail;refine S0.out.mono ?_;rintro e w14 ⟨rfl,hB14⟩;have HW14:=hid (up HWr.out hB14);rw[ex_sum0];clear hB14;dsimp only;have S1:=hid (s_Sum [97] w14 (by decide));go_wp2_with fail;refine S1.out.mono ?_;rintro e w15 ⟨rfl,hB15⟩;have HW15:=hid (up HW14.out hB15);rw[ex_sum1];clear hB15;dsimp only;have S2:=hid (s_Sum [117,110,100,111] w15 (by decide));go_wp2_with fail;refine S2.out.mono ?_;rintro e w16 ⟨rfl,hB16⟩;rw[ex_sum2];dsimp only;go_wp2_with fail;go_ret;exact⟨rfl,up HB2.out (up HW15.out hB16)⟩
end Go.Proofs.YtclgllmipcbagaaGreatDoor
namespace Go.Proofs.YtclgllmipcbagaaGreatDoor
set_option linter.unusedVariables false
set_option linter.unusedSimpArgs false
set_option maxRecDepth 100000
set_option maxHeartbeats 16000000
open Go.ChangeShapes Go.WideShapes Go.ChangeAt Go.RowKit Go.Deep Go.Joins
theorem law_own:ownKnob Tryz.prog.godebug=none:=by kernel_rfl
theorem law_laidOut:laidOutB Tryz.prog=true:=by kernel_rfl
theorem cells_Edge:Tryz.prog.cellsOf 150=3:=by kernel_rfl
theorem cells_Graph:Tryz.prog.cellsOf 28=2:=by kernel_rfl
theorem cells_int:Tryz.prog.cellsOf 3=1:=by kernel_rfl
theorem bytes_Edge:Tryz.prog.bytesOf 150=24:=by kernel_rfl
theorem bytes_int:Tryz.prog.bytesOf 3=8:=by kernel_rfl
theorem und_int:Tryz.prog.underlying 3=some (.int .i64):=by kernel_rfl
theorem und_Edges:Tryz.prog.underlying 26=some (.slice 150):=by kernel_rfl
theorem und_Div:Tryz.prog.underlying 65=some (.slice 3):=by kernel_rfl
theorem und_Ints:Tryz.prog.underlying 29=some (.slice 3):=by kernel_rfl
theorem und_bool:Tryz.prog.underlying 4=some .bool:=by kernel_rfl
theorem law_lt {w:World}{a:Addr}{v:Value}(h:w.cell? a=some v):a.block<w.heap.size:=by
 rcases Nat.lt_or_ge a.block w.heap.size with h'|h'
 ·exact h'
 ·simp[World.cell?,Array.getElem?_eq_none h']at h
theorem cellsAt_of (w:World)(a:Addr)(n k:Nat)(xs:List Value)(hk:0<k)(hn:xs.length=n*k)(h:∀i,i<n→∀j,j<k→w.cell? (a.add (i*k+j))=xs[i*k+j]?):CellsAt w (some a) xs:=by
 by_cases hx:xs=[]
 ·exact .inl hx
 have hpos:0<xs.length:=List.length_pos_iff.2 hx;have hn0:0<n:=by rcases Nat.eq_zero_or_pos n with h0|h0<;>simp_all
 have h00:=h 0 hn0 0 hk;rw[show (0*k+0:Nat)=0 by omega,List.getElem?_eq_getElem hpos]at h00;have hsp:=World.cell?_spot h00;have hlt:=law_lt h00;obtain⟨b,off,spot⟩:=a;simp[Addr.add]at hsp hlt;subst hsp;refine .inr ⟨b,off,rfl,hlt,fun i hi=> ?_⟩;have e1:i/k*k+i%k=i:=by rw[Nat.mul_comm];exact Nat.div_add_mod i k
 have:=h (i/k) (by rw[hn]at hi;exact Nat.div_lt_of_lt_mul (by rw[Nat.mul_comm];exact hi)) (i%k) (Nat.mod_lt _ hk);rw[e1]at this;rw[← this];congr 1;unfold Addr.add;split<;>simp_all
section
variable {H : Type} {enc : TypeId × Value → H} {W : World} {base : Nat} {held : Bool}
theorem list3 {α:Type}{l:List α}(h:l.length=3):∃x y z,l=[x,y,z]:=by
 match l,h with
 |[x,y,z],_=>exact⟨x,y,z,rfl⟩
theorem list2 {α:Type}{l:List α}(h:l.length=2):∃x y,l=[x,y]:=by
 match l,h with
 |[x,y],_=>exact⟨x,y,rfl⟩
theorem struct_edge:∃f0 f1 f2:Field,Tryz.prog.underlying 150=some (.struct #[f0,f1,f2])∧f0.type=3∧f1.type=3∧f2.type=3∧f0.offset=0∧f1.offset=1∧f2.offset=2:=
 ⟨_,_,_,Tryz.underlying150,rfl,rfl,rfl,rfl,rfl,rfl⟩
theorem struct_graph:∃f0 f1:Field,Tryz.prog.underlying 28=some (.struct #[f0,f1])∧f0.type=3∧f1.type=26∧oneCellFields Tryz.prog #[f0,f1]=true:=
 ⟨_,_,Tryz.underlying28,rfl,rfl,by kernel_rfl⟩
theorem reads_edges {fuel:Nat}{v:Value}{y:DataW H×List MemPlace}(h:DataW.trod enc Tryz.prog W base (fun _=>true) held fuel 26 [v]=some y)
 (hs:(y.1.weights Tryz.prog 26).all (· ≤reachBytes)=true):∃es,EdgesR W v es:=by
 rcases open_slice und_Edges h with ⟨hcs,rfl⟩|⟨a,len,cap,m,n,D,Pl,hcs,_,hl,hm,hmm,rfl,hx⟩
 ·simp at hcs
  subst hcs;exact⟨[],none,0,rfl,Nat.le_refl _,by omega,by decide,.inl rfl⟩
 ·simp at hcs
  subst hcs;simp only[if_true]at hmm;subst hmm;obtain⟨f0,f1,f2,hu,t0,t1,t2,o0,o1,o2⟩:=struct_edge;have each:∀i,i<m→∃x:E,∀j,j<3→W.cell? (a.add (i*3+j))=x.cells[j]? :=by
   intro i hi;obtain⟨cs',h1,h2⟩:=hx i hi;rw[cells_Edge]at h1;obtain⟨_,hlen,hcell⟩:=World.cells?_some h1;obtain⟨xs,k,_,_,_,hxl,hf⟩:=DataW.trod_struct hu h2;obtain⟨y0,y1,y2,rfl⟩:=list3 hxl;obtain⟨v0,v1,v2,rfl⟩:=list3 hlen
   focus
    have g0:=hf 0 f0 rfl
    have g1:=hf 1 f1 rfl
    have g2:=hf 2 f2 rfl
    simp[o0,o1,o2,t0,t1,t2,cells_int]at g0 g1 g2
    obtain⟨n0,e0,_⟩:=DataW.trod_int und_int g0
    obtain⟨n1,e1,_⟩:=DataW.trod_int und_int g1
    obtain⟨n2,e2,_⟩:=DataW.trod_int und_int g2
    simp at e0 e1 e2
    subst e0 e1 e2
    refine⟨⟨n0,n1,n2⟩,fun j hj=> ?_⟩
    rw[← add_add,hcell j hj]
    rfl
  obtain⟨q,hq⟩:=choose_lt (α:=E) each;refine⟨(List.range len).map q,some a,m,by simp,by simpa using hl,by unfold maxLen at hm;omega,?_,?_⟩
  ·have hw:(len+(m-len))*24≤reachBytes:=by
    have:=List.all_eq_true.1 hs ((len+(m-len))*24) (by simp[DataW.weights,bytes_Edge]);simpa using this
   have:=reachBytes_lt;simp;omega
  ·refine cellsAt_of W a len 3 _ (by decide) ?_ fun i hi j hj=> ?_
   ·have:∀l:List Nat,((l.map q).flatMap E.cells).length=l.length*3:=by
     intro l;induction l with
     |nil=>rfl
     |cons x l ih=>simp only[xA,List.flatMap_cons,List.length_append,ih,List.length_cons];simp[E.cells];omega
    rw[this];simp
   ·rw[hq i (by omega) j hj,flat_get _ i (by simpa using hi) j hj]
    simp[hi]
theorem reads_ints {t:TypeId}(ht:Tryz.prog.underlying t=some (.slice 3)){fuel:Nat}{v:Value}{y:DataW H×List MemPlace}(h:DataW.trod enc Tryz.prog W base (fun _=>true) held fuel t [v]=some y)
 (hs:(y.1.weights Tryz.prog t).all (· ≤reachBytes)=true):∃l,IntsR W v l:=by
 rcases open_slice ht h with ⟨hcs,rfl⟩|⟨a,len,cap,m,n,D,Pl,hcs,_,hl,hm,hmm,rfl,hx⟩
 ·simp at hcs
  subst hcs;exact⟨[],none,0,rfl,Nat.le_refl _,by omega,by decide,.inl rfl⟩
 ·simp at hcs
  subst hcs;simp only[if_true]at hmm;subst hmm;have each:∀i,i<m→∃x:Int,W.cell? (a.add i)=some (.int .i64 x):=by
   intro i hi;obtain⟨cs',h1,h2⟩:=hx i hi;rw[cells_int,Nat.mul_one]at h1;obtain⟨n0,e0,_⟩:=DataW.trod_int und_int h2;subst e0;obtain⟨_,_,hcell⟩:=World.cells?_some h1;have:=hcell 0 (by omega);rw[add_add]at this;exact⟨n0,by simpa using this⟩
  obtain⟨q,hq⟩:=choose_lt (α:=Int) each;refine⟨(List.range len).map q,some a,m,by simp,by simpa using hl,by unfold maxLen at hm;omega,?_,?_⟩
  ·have hw:(len+(m-len))*8≤reachBytes:=by
    have:=List.all_eq_true.1 hs ((len+(m-len))*8) (by simp[DataW.weights,ht,bytes_int]);simpa using this
   have:=reachBytes_lt;simp;omega
  ·refine cellsAt_of W a len 1 _ (by decide) (by simp) fun i hi j hj=> ?_
   obtain rfl:j=0:=by omega
   rw[Nat.mul_one,Nat.add_zero,hq i (by omega)];simp[hi]
theorem reads_graph {r:Reach}{b0:Nat}{v:Value}{d:DataW H}{p:List MemPlace}(hv:Value.okWide Tryz.prog W r b0 28 v)(h:DataW.Trod enc Tryz.prog W base (fun _=>true) held 28 v d p)
 (hs:(d.weights Tryz.prog 28).all (· ≤reachBytes)=true):∃g,GrR W v g:=by
 obtain⟨f0,f1,hu,t0,t1,hone⟩:=struct_graph;obtain⟨v0,v1,y0,y1,n,rfl,rfl,rfl,h0,h1⟩:=open_agg2 hu hone cells_Graph hv h;rw[t0]at h0;rw[t1]at h1;obtain⟨z,e0,_⟩:=DataW.trod_int und_int h0;simp at e0;subst e0;have hs1:(y1.1.weights Tryz.prog 26).all (· ≤reachBytes)=true:=by
  rw[List.all_eq_true]at hs⊢;intro k hk;refine hs k ?_;simp only[DataW.weights,hu,xA,xB,DataW.weightsEach,t1,List.mem_append];exact .inr (.inl hk)
 obtain⟨es,hes⟩:=reads_edges h1 hs1;exact⟨⟨z,es⟩,v1,rfl,hes⟩
end
theorem weigh {H:Type}{P:Program}{ts:List TypeId}{ds:List (DataW H)}(h:(DataW.weightsEach P ts ds).all (· ≤reachBytes)=true)(j:Nat)(t:TypeId)(d:DataW H)(ht:ts[j]? =some t)(hd:ds[j]? =some d):(d.weights P t).all (· ≤reachBytes)=true:=by
 rw[List.all_eq_true]at h⊢;intro k hk;exact h k (DataW.weights_mem_each ht hd k hk)
theorem cells_Obj:Tryz.prog.cellsOf 67=5:=by kernel_rfl
theorem cells_Cmd:Tryz.prog.cellsOf 31=8:=by kernel_rfl
theorem cells_str:Tryz.prog.cellsOf 9=1:=by kernel_rfl
theorem cells_gr:Tryz.prog.cellsOf 28=2:=by kernel_rfl
theorem cells_dv:Tryz.prog.cellsOf 65=1:=by kernel_rfl
theorem cells_inS:Tryz.prog.cellsOf 29=1:=by kernel_rfl
theorem cells_obS:Tryz.prog.cellsOf 22=1:=by kernel_rfl
theorem cells_loS:Tryz.prog.cellsOf 23=1:=by kernel_rfl
theorem cells_eds:Tryz.prog.cellsOf 26=1:=by kernel_rfl
theorem bytes_Obj:Tryz.prog.bytesOf 67=88:=by kernel_rfl
theorem bytes_Cmd:Tryz.prog.bytesOf 31=120:=by kernel_rfl
theorem bytes_obS:Tryz.prog.bytesOf 22=24:=by kernel_rfl
theorem und_Objs:Tryz.prog.underlying 22=some (.slice 67):=by kernel_rfl
theorem und_Lso:Tryz.prog.underlying 23=some (.slice 22):=by kernel_rfl
theorem und_Cmds:Tryz.prog.underlying 78=some (.slice 31):=by kernel_rfl
theorem und_strR:Tryz.prog.underlying 9=some .string:=by kernel_rfl
theorem flat_at {ys:List (List Value)}{n:Nat}:∀(h:∀y∈ys,y.length=n) (i j:Nat),i<ys.length→j<n→ys.flatten[i*n+j]? =(ys[i]?.getD [])[j]? :=by
 induction ys with
 |nil=>intro _ i j hi;simp at hi
 |cons y ys ih=>
  intro h i j hi hj
  have hy:=h y (List.mem_cons_self ..)
  rw[List.flatten_cons]
  cases i with
  |zero=>
   rw[Nat.zero_mul,Nat.zero_add,List.getElem?_append_left (by omega)]
   rfl
  |succ i=>
   rw[List.getElem?_append_right (by rw[hy,Nat.succ_mul];omega),hy,show(i+1)*n+j-n=i*n+j by rw[Nat.succ_mul];omega,ih (fun z hz=>h z (List.mem_cons_of_mem _ hz)) i j (by simpa using hi) hj]
   rfl
theorem flat_len {ys:List (List Value)}{n:Nat}:(∀ y∈ys,y.length=n)→ys.flatten.length=ys.length*n:=by
 induction ys with
 |nil=>intro _;simp
 |cons y ys ih=>
  intro h
  rw[List.flatten_cons,List.length_append,h y (List.mem_cons_self ..),ih fun z hz=>h z (List.mem_cons_of_mem _ hz),List.length_cons,Nat.succ_mul];omega
section
variable {H : Type} {enc : TypeId × Value → H} {W : World} {base : Nat} {held : Bool}
theorem struct_obj:∃f0 f1 f2 f3:Field,Tryz.prog.underlying 67=some (.struct #[f0,f1,f2,f3])∧f0.type=9∧f1.type=9∧f2.type=28∧f3.type=65∧f0.offset=0∧f1.offset=1∧f2.offset=2∧f3.offset=4:=
 ⟨_,_,_,_,Tryz.underlying67,rfl,rfl,rfl,rfl,rfl,rfl,rfl,rfl⟩
theorem struct_gr:∃f0 f1:Field,Tryz.prog.underlying 28=some (.struct #[f0,f1])∧f0.type=3∧f1.type=26∧f0.offset=0∧f1.offset=1:=
 ⟨_,_,Tryz.underlying28,rfl,rfl,rfl,rfl⟩
theorem list4 {α:Type}{l:List α}(h:l.length=4):∃x y z u,l=[x,y,z,u]:=by
 match l,h with
 |[x,y,z,u],_=>exact⟨x,y,z,u,rfl⟩
theorem list5 {α:Type}{l:List α}(h:l.length=5):∃x y z u v,l=[x,y,z,u,v]:=by
 match l,h with
 |[x,y,z,u,v],_=>exact⟨x,y,z,u,v,rfl⟩
theorem wAll_memS {H:Type}{P:Program}{e:TypeId}:∀{l:List (DataW H)} {d:DataW H},d∈l→∀n∈d.weights P e,n∈DataW.weightsAll P e l
 |[],_,h,_,_=>by cases h
 |x::l,d,h,n,hn=>by
  rw[DataW.weightsAll,List.mem_append];rcases List.mem_cons.1 h with rfl|h
  ·exact .inl hn
  ·exact .inr (wAll_memS h n hn)
theorem reads_gr {fuel:Nat}{v0 v1:Value}{y:DataW H×List MemPlace}(h:DataW.trod enc Tryz.prog W base (fun _=>true) held fuel 28 [v0,v1]=some y)
 (hs:(y.1.weights Tryz.prog 28).all (· ≤reachBytes)=true):∃g:G,v0= .int .i64 g.n∧EdgesR W v1 g.es:=by
 obtain⟨e0,e1,hg,u0,u1,p0,p1⟩:=struct_gr;obtain⟨z0,z1,m,hx2,_,g0,g1⟩:=trod_struct2 hg h;rw[u0,p0,cells_int]at g0;rw[u1,p1,cells_eds]at g1;have g0:DataW.trod enc Tryz.prog W base (fun _=>true) held m 3 [v0]=some z0:=g0;have g1:DataW.trod enc Tryz.prog W base (fun _=>true) held m 26 [v1]=some z1:=g1;subst hx2;obtain⟨zn,ez,_⟩:=DataW.trod_int und_int g0;simp at ez;subst ez;have hse:(z1.1.weights Tryz.prog 26).all (· ≤reachBytes)=true:=by
  rw[List.all_eq_true]at hs⊢;intro k hk;refine hs k ?_;simp only[DataW.weights,hg,xA,xB,DataW.weightsEach,u0,u1,List.mem_append];exact .inr (.inl hk)
 obtain⟨es,hes⟩:=reads_edges g1 hse;exact⟨⟨zn,es⟩,rfl,hes⟩
theorem reads_obj {fuel:Nat}{cs:List Value}{y:DataW H×List MemPlace}(h:DataW.trod enc Tryz.prog W base (fun _=>true) held fuel 67 cs=some y)
 (hs:(y.1.weights Tryz.prog 67).all (· ≤reachBytes)=true):∃x:Ob,ObV W x cs∧SmOb x:=by
 obtain⟨f0,f1,f2,f3,hu,t0,t1,t2,t3,o0,o1,o2,o3⟩:=struct_obj;obtain⟨xs,n,_,hy,hlen,hxl,hf⟩:=DataW.trod_struct hu h;rw[cells_Obj]at hlen;obtain⟨y0,y1,y2,y3,rfl⟩:=list4 hxl;obtain⟨v0,v1,v2,v3,v4,rfl⟩:=list5 hlen;have g0:=hf 0 f0 rfl;have g1:=hf 1 f1 rfl;have g2:=hf 2 f2 rfl;have g3:=hf 3 f3 rfl;rw[t0,o0,cells_str]at g0;rw[t1,o1,cells_str]at g1;rw[t2,o2,cells_gr]at g2;rw[t3,o3,cells_dv]at g3;have g0:DataW.trod enc Tryz.prog W base (fun _=>true) held n 9 [v0]=some y0:=g0;have g1:DataW.trod enc Tryz.prog W base (fun _=>true) held n 9 [v1]=some y1:=g1;have g2:DataW.trod enc Tryz.prog W base (fun _=>true) held n 28 [v2,v3]=some y2:=g2
 have g3:DataW.trod enc Tryz.prog W base (fun _=>true) held n 65 [v4]=some y3:=g3;obtain⟨s0,e0,x0,_⟩:=DataW.trod_string und_strR g0;obtain⟨s1,e1,x1,_⟩:=DataW.trod_string und_strR g1;simp at e0 e1;subst e0 e1 hy x0 x1;have hn0:s0.data.toList.length≤140737488355328:=by
  have:=List.all_eq_true.1 hs s0.data.toList.length (by
   simp only[DataW.weights,hu,xA,xB,DataW.weightsEach,t0,t1,t2,t3,List.mem_append];exact .inl (by simp))
  have h2:=reachBytes_lt;have h3:s0.data.toList.length≤reachBytes:=by simpa using this
  omega
 have hn1:s1.data.toList.length≤140737488355328:=by
  have:=List.all_eq_true.1 hs s1.data.toList.length (by
   simp only[DataW.weights,hu,xA,xB,DataW.weightsEach,t0,t1,t2,t3,List.mem_append];exact .inr (.inl (by simp)))
  have h2:=reachBytes_lt;have h3:s1.data.toList.length≤reachBytes:=by simpa using this
  omega
 have hw:∀k,k∈y2.1.weights Tryz.prog 28∨k∈y3.1.weights Tryz.prog 65→decide (k≤reachBytes)=true:=fun k hk=>by
  refine List.all_eq_true.1 hs k ?_;simp only[DataW.weights,hu,xA,xB,DataW.weightsEach,t0,t1,t2,t3,List.mem_append];rcases hk with hk|hk
  ·exact .inr (.inr (.inl hk))
  ·exact .inr (.inr (.inr (.inl hk)))
 obtain⟨g,rfl,hes⟩:=reads_gr g2 (List.all_eq_true.2 fun k hk=>hw k (.inl hk));obtain⟨d,hd⟩:=reads_ints und_Div g3 (List.all_eq_true.2 fun k hk=>hw k (.inr hk));exact⟨⟨s0.data.toList,s1.data.toList,g,d⟩,⟨_,_,rfl,hes,hd⟩,hn0,hn1⟩
theorem reads_objs {fuel:Nat}{v:Value}{y:DataW H×List MemPlace}(h:DataW.trod enc Tryz.prog W base (fun _=>true) held fuel 22 [v]=some y)
 (hs:(y.1.weights Tryz.prog 22).all (· ≤reachBytes)=true):∃l,ObsR W v l∧SmObs l:=by
 rcases open_slice und_Objs h with ⟨hcs,rfl⟩|⟨a,len,cap,m,n,D,Pl,hcs,_,hl,hm,hmm,rfl,hx⟩
 ·simp at hcs
  subst hcs;exact⟨[],ObsR.nil _,fun k hk=>by cases hk⟩
 ·simp at hcs
  subst hcs;simp only[if_true]at hmm;subst hmm;have each:∀i,i<len→∃x:Ob×List Value,(ObV W x.1 x.2∧SmOb x.1)∧∀j,j<5→W.cell? (a.add (i*5+j))=x.2[j]? :=by
   intro i hi;obtain⟨cs',h1,h2⟩:=hx i (by omega);rw[cells_Obj]at h1;obtain⟨_,hlen,hcell⟩:=World.cells?_some h1;obtain⟨x,hxv⟩:=reads_obj h2 (by
    rw[List.all_eq_true]at hs⊢;intro k hk;refine hs k ?_;simp only[DataW.weights,und_Objs];refine List.mem_cons_of_mem _ (List.mem_append_left _ (wAll_memS ?_ k hk));exact List.mem_map.2 ⟨i,by simpa using hi,rfl⟩)
   exact⟨(x,cs'),hxv,fun j hj=>by rw[← add_add];exact hcell j hj⟩
  obtain⟨q,hq⟩:=choose_lt (α:=Ob×List Value) each;have h5:∀y∈(List.range len).map fun i=>(q i).2,y.length=5:=fun y hy=>by
   obtain⟨i,hi,rfl⟩:=List.mem_map.1 hy;exact(hq i (by simpa using hi)).1.1.len
  refine⟨(List.range len).map fun i=>(q i).1,?_⟩;have:=obs_mk (m:=W) (a:=some a) (cap:=m) (ys:=(List.range len).map fun i=>(q i).2) (l:=(List.range len).map fun i=>(q i).1) ⟨by simp,fun k hk=>by
   have hk:k<len:=by simpa using hk
   have e1:((List.range len).map fun i=>(q i).1)[k]?.getD default=(q k).1:=by simp[hk]
   have e2:((List.range len).map fun i=>(q i).2)[k]?.getD []=(q k).2:=by simp[hk]
   rw[e1,e2];exact(hq k hk).1.1⟩
   (cellsAt_of W a len 5 _ (by decide) (by rw[flat_len h5];simp) fun i hi j hj=>by
     rw[flat_at h5 i j (by simpa using hi) hj,(hq i hi).2 j hj];simp[hi])
   (by simpa using hl) (by unfold maxLen at hm;omega) (by
     have hw:(len+(m-len))*88≤reachBytes:=by
      have:=List.all_eq_true.1 hs ((len+(m-len))*88) (by simp[DataW.weights,und_Objs,bytes_Obj]);simpa using this
     have:=reachBytes_lt;simp;omega)
  refine⟨by simpa using this,fun k hk=> ?_⟩;have hk:k<len:=by simpa using hk
  have e1:((List.range len).map fun i=>(q i).1)[k]?.getD default=(q k).1:=by simp[hk]
  rw[e1];exact(hq k hk).1.2
theorem reads_lso {fuel:Nat}{v:Value}{y:DataW H×List MemPlace}(h:DataW.trod enc Tryz.prog W base (fun _=>true) held fuel 23 [v]=some y)
 (hs:(y.1.weights Tryz.prog 23).all (· ≤reachBytes)=true):∃ls,LsoR W v ls∧SmLs ls:=by
 rcases open_slice1 und_Lso cells_obS h with ⟨hcs,rfl⟩|⟨a,len,cap,m,n,V,D,Pl,hcs,_,hl,hm,hmm,rfl,hx⟩
 ·simp at hcs
  subst hcs;exact⟨[],LsoR.nil _,fun k hk=>by cases hk⟩
 ·simp at hcs
  subst hcs;simp only[if_true]at hmm;subst hmm;have each:∀i,i<len→∃l:List Ob,ObsR W (V i) l∧SmObs l:=by
   intro i hi;obtain⟨_,h2⟩:=hx i (by omega);refine reads_objs h2 ?_;rw[List.all_eq_true]at hs⊢;intro k hk;refine hs k ?_;simp only[DataW.weights,und_Lso];refine List.mem_cons_of_mem _ (List.mem_append_left _ (wAll_memS ?_ k hk));exact List.mem_map.2 ⟨i,by simpa using hi,rfl⟩
  obtain⟨q,hq⟩:=choose_lt (α:=List Ob) each;refine⟨(List.range len).map q,⟨some a,m,(List.range len).map V,by simp,by simpa using hl,by unfold maxLen at hm;omega,?_,?_,by simp,fun i hi=> ?_⟩,fun i hi=> ?_⟩
  ·have hw:(len+(m-len))*24≤reachBytes:=by
    have:=List.all_eq_true.1 hs ((len+(m-len))*24) (by simp[DataW.weights,und_Lso,bytes_obS]);simpa using this
   have:=reachBytes_lt;simp;omega
  ·refine cellsAt_of W a len 1 _ (by decide) (by simp) fun i hi j hj=> ?_
   obtain rfl:j=0:=by omega
   rw[Nat.mul_one,Nat.add_zero,(hx i (by omega)).1];simp[hi]
  ·have hi:i<len:=by simpa using hi
   have e1:((List.range len).map V)[i]?.getD undef=V i:=by simp[hi]
   have e2:((List.range len).map q)[i]?.getD []=q i:=by simp[hi]
   rw[e1,e2];exact(hq i hi).1
  ·have hi:i<len:=by simpa using hi
   have e2:((List.range len).map q)[i]?.getD []=q i:=by simp[hi]
   rw[e2];exact(hq i hi).2
theorem struct_ses:∃f0 f1 f2:Field,Tryz.prog.underlying 25=some (.struct #[f0,f1,f2])∧f0.type=22∧f1.type=23∧f2.type=23∧f0.offset=0∧f1.offset=1∧f2.offset=2:=
 ⟨_,_,_,Tryz.underlying25,rfl,rfl,rfl,rfl,rfl,rfl⟩
theorem cells_Ses:Tryz.prog.cellsOf 25=3:=by kernel_rfl
theorem arr3 {cs:Array Value}(h:cs.size=3):∃a b c,cs= #[a,b,c]:=by
 obtain⟨l⟩:=cs;obtain⟨a,b,c,rfl⟩:=list3 (l:=l) (by simpa using h);exact⟨a,b,c,rfl⟩
theorem list8 {α:Type}{l:List α}(h:l.length=8):∃a b c d e f g i,l=[a,b,c,d,e,f,g,i]:=by
 match l,h with
 |[a,b,c,d,e,f,g,i],_=>exact⟨a,b,c,d,e,f,g,i,rfl⟩
theorem list7 {α:Type}{l:List α}(h:l.length=7):∃a b c d e f g,l=[a,b,c,d,e,f,g]:=by
 match l,h with
 |[a,b,c,d,e,f,g],_=>exact⟨a,b,c,d,e,f,g,rfl⟩
theorem arr8 {cs:Array Value}(h:cs.size=8):∃a b c d e f g i,cs= #[a,b,c,d,e,f,g,i]:=by
 obtain⟨l⟩:=cs;obtain⟨a,b,c,d,e,f,g,i,rfl⟩:=list8 (l:=l) (by simpa using h);exact⟨a,b,c,d,e,f,g,i,rfl⟩
theorem reads_ses {r:Reach}{b0:Nat}{v:Value}{d:DataW H}{p:List MemPlace}(hv:Value.okWide Tryz.prog W r b0 25 v)(h:DataW.Trod enc Tryz.prog W base (fun _=>true) held 25 v d p)
 (hs:(d.weights Tryz.prog 25).all (· ≤reachBytes)=true):∃s:Ses,SesR W v s∧SmSes s:=by
 obtain⟨f0,f1,f2,hu,t0,t1,t2,o0,o1,o2⟩:=struct_ses;obtain⟨cs,rfl,hsz⟩:=okWide_struct hu hv;obtain⟨c0,c1,c2,rfl⟩:=arr3 (hsz.trans cells_Ses);obtain⟨fuel,hf⟩:=h;obtain⟨y0,y1,y2,n,hx,_,h0,h1,h2⟩:=trod_struct3 hu hf;rw[t0,o0,cells_obS]at h0;rw[t1,o1,cells_loS]at h1;rw[t2,o2,cells_loS]at h2;have h0:DataW.trod enc Tryz.prog W base (fun _=>true) held n 22 [c0]=some y0:=h0;have h1:DataW.trod enc Tryz.prog W base (fun _=>true) held n 23 [c1]=some y1:=h1;have h2:DataW.trod enc Tryz.prog W base (fun _=>true) held n 23 [c2]=some y2:=h2;simp only[Prod.mk.injEq]at hx;obtain⟨rfl,rfl⟩:=hx;have hw:∀k,k∈y0.1.weights Tryz.prog 22∨k∈y1.1.weights Tryz.prog 23∨k∈y2.1.weights Tryz.prog 23→decide (k≤reachBytes)=true:=fun k hk=>by
  refine List.all_eq_true.1 hs k ?_;simp only[DataW.weights,hu,xA,xB,DataW.weightsEach,t0,t1,t2,List.mem_append];rcases hk with hk|hk|hk
  ·exact .inl hk
  ·exact .inr (.inl hk)
  ·exact .inr (.inr (.inl hk))
 obtain⟨l,hl,ml⟩:=reads_objs h0 (List.all_eq_true.2 fun k hk=>hw k (.inl hk));obtain⟨ps,hp,mp⟩:=reads_lso h1 (List.all_eq_true.2 fun k hk=>hw k (.inr (.inl hk)));obtain⟨fs,hf,mf⟩:=reads_lso h2 (List.all_eq_true.2 fun k hk=>hw k (.inr (.inr hk)));exact⟨⟨l,ps,fs⟩,⟨c0,c1,c2,rfl,hl,hp,hf⟩,ml,mp,mf⟩
theorem struct_cmd:∃f0 f1 f2 f3 f4 f5 f6:Field,Tryz.prog.underlying 31=some (.struct #[f0,f1,f2,f3,f4,f5,f6])∧f0.type=3∧f1.type=9∧f2.type=9∧f3.type=9∧f4.type=3∧f5.type=28∧f6.type=29∧
 f0.offset=0∧f1.offset=1∧f2.offset=2∧f3.offset=3∧f4.offset=4∧f5.offset=5∧f6.offset=7:=
 ⟨_,_,_,_,_,_,_,Tryz.underlying31,rfl,rfl,rfl,rfl,rfl,rfl,rfl,rfl,rfl,rfl,rfl,rfl,rfl,rfl⟩
theorem reads_cmdV {fuel:Nat}{cs:List Value}{y:DataW H×List MemPlace}(h:DataW.trod enc Tryz.prog W base (fun _=>true) held fuel 31 cs=some y)
 (hs:(y.1.weights Tryz.prog 31).all (· ≤reachBytes)=true):∃c:Cmd,CmV W c cs∧SmCmd c:=by
 obtain⟨f0,f1,f2,f3,f4,f5,f6,hu,t0,t1,t2,t3,t4,t5,t6,o0,o1,o2,o3,o4,o5,o6⟩:=struct_cmd;obtain⟨xs,n,_,hy,hlen,hxl,hf⟩:=DataW.trod_struct hu h;rw[cells_Cmd]at hlen;obtain⟨y0,y1,y2,y3,y4,y5,y6,rfl⟩:=list7 hxl;obtain⟨v0,v1,v2,v3,v4,v5,v6,v7,rfl⟩:=list8 hlen;have g0:=hf 0 f0 rfl;have g1:=hf 1 f1 rfl;have g2:=hf 2 f2 rfl;have g3:=hf 3 f3 rfl;have g4:=hf 4 f4 rfl;have g5:=hf 5 f5 rfl;have g6:=hf 6 f6 rfl;rw[t0,o0,cells_int]at g0;rw[t1,o1,cells_str]at g1;rw[t2,o2,cells_str]at g2;rw[t3,o3,cells_str]at g3;rw[t4,o4,cells_int]at g4;rw[t5,o5,cells_gr]at g5;rw[t6,o6,cells_inS]at g6;have g0:DataW.trod enc Tryz.prog W base (fun _=>true) held n 3 [v0]=some y0:=g0
 have g1:DataW.trod enc Tryz.prog W base (fun _=>true) held n 9 [v1]=some y1:=g1;have g2:DataW.trod enc Tryz.prog W base (fun _=>true) held n 9 [v2]=some y2:=g2;have g3:DataW.trod enc Tryz.prog W base (fun _=>true) held n 9 [v3]=some y3:=g3;have g4:DataW.trod enc Tryz.prog W base (fun _=>true) held n 3 [v4]=some y4:=g4;have g5:DataW.trod enc Tryz.prog W base (fun _=>true) held n 28 [v5,v6]=some y5:=g5;have g6:DataW.trod enc Tryz.prog W base (fun _=>true) held n 29 [v7]=some y6:=g6;obtain⟨k0,e0,_⟩:=DataW.trod_int und_int g0;obtain⟨s1,e1,x1,_⟩:=DataW.trod_string und_strR g1;obtain⟨s2,e2,x2,_⟩:=DataW.trod_string und_strR g2
 obtain⟨s3,e3,x3,_⟩:=DataW.trod_string und_strR g3;obtain⟨k4,e4,_⟩:=DataW.trod_int und_int g4;simp at e0 e1 e2 e3 e4;subst e0 e1 e2 e3 e4 hy x1 x2 x3;have hn:∀s:ByteArray,s=s1∨s=s2∨s=s3→s.data.toList.length≤140737488355328:=fun s hh=>by
  have:=List.all_eq_true.1 hs s.data.toList.length (by
   simp only[DataW.weights,hu,xA,xB,DataW.weightsEach,t0,t1,t2,t3,t4,t5,t6,List.mem_append];rcases hh with rfl|rfl|rfl
   ·exact .inr (.inl (by simp))
   ·exact .inr (.inr (.inl (by simp)))
   ·exact .inr (.inr (.inr (.inl (by simp)))))
  have h2:=reachBytes_lt;have h3:s.data.toList.length≤reachBytes:=by simpa using this
  omega
 have hw:∀k,k∈y5.1.weights Tryz.prog 28∨k∈y6.1.weights Tryz.prog 29→decide (k≤reachBytes)=true:=fun k hk=>by
  refine List.all_eq_true.1 hs k ?_;simp only[DataW.weights,hu,xA,xB,DataW.weightsEach,t0,t1,t2,t3,t4,t5,t6,List.mem_append];rcases hk with hk|hk
  ·exact .inr (.inr (.inr (.inr (.inr (.inl hk)))))
  ·exact .inr (.inr (.inr (.inr (.inr (.inr (.inl hk))))))
 obtain⟨g,rfl,hes⟩:=reads_gr g5 (List.all_eq_true.2 fun k hk=>hw k (.inl hk));obtain⟨l,hl⟩:=reads_ints und_Ints g6 (List.all_eq_true.2 fun k hk=>hw k (.inr hk));exact⟨⟨k0,s1.data.toList,s2.data.toList,s3.data.toList,k4,g,l⟩,⟨_,_,rfl,hes,hl⟩,hn _ (.inl rfl),hn _ (.inr (.inl rfl)),hn _ (.inr (.inr rfl))⟩
theorem reads_cmd {r:Reach}{b0:Nat}{v:Value}{d:DataW H}{p:List MemPlace}(hv:Value.okWide Tryz.prog W r b0 31 v)(h:DataW.Trod enc Tryz.prog W base (fun _=>true) held 31 v d p)
 (hs:(d.weights Tryz.prog 31).all (· ≤reachBytes)=true):∃c:Cmd,CmdR W v c∧SmCmd c:=by
 obtain⟨f0,f1,f2,f3,f4,f5,f6,hu,_⟩:=struct_cmd;obtain⟨cs,rfl,hsz⟩:=okWide_struct hu hv;obtain⟨fuel,hf⟩:=h;obtain⟨c,⟨ev,vv,e,h1,h2⟩,hm⟩:=reads_cmdV hf hs;refine⟨c,⟨ev,vv,?_,h1,h2⟩,hm⟩;obtain⟨l⟩:=cs;have e':l=_:=e;subst e';rfl
theorem reads_cmds {fuel:Nat}{v:Value}{y:DataW H×List MemPlace}(h:DataW.trod enc Tryz.prog W base (fun _=>true) held fuel 78 [v]=some y)
 (hs:(y.1.weights Tryz.prog 78).all (· ≤reachBytes)=true):∃l,CmsR W v l∧∀k,k<l.length→SmCmd (l[k]?.getD default):=by
 rcases open_slice und_Cmds h with ⟨hcs,rfl⟩|⟨a,len,cap,m,n,D,Pl,hcs,_,hl,hm,hmm,rfl,hx⟩
 ·simp at hcs
  subst hcs;exact⟨[],CmsR.nil _,fun k hk=>by cases hk⟩
 ·simp at hcs
  subst hcs;simp only[if_true]at hmm;subst hmm;have each:∀i,i<len→∃x:Cmd×List Value,(CmV W x.1 x.2∧SmCmd x.1)∧∀j,j<8→W.cell? (a.add (i*8+j))=x.2[j]? :=by
   intro i hi;obtain⟨cs',h1,h2⟩:=hx i (by omega);rw[cells_Cmd]at h1;obtain⟨_,hlen,hcell⟩:=World.cells?_some h1;obtain⟨x,hxv⟩:=reads_cmdV h2 (by
    rw[List.all_eq_true]at hs⊢;intro k hk;refine hs k ?_;simp only[DataW.weights,und_Cmds];refine List.mem_cons_of_mem _ (List.mem_append_left _ (wAll_memS ?_ k hk));exact List.mem_map.2 ⟨i,by simpa using hi,rfl⟩)
   exact⟨(x,cs'),hxv,fun j hj=>by rw[← add_add];exact hcell j hj⟩
  obtain⟨q,hq⟩:=choose_lt (α:=Cmd×List Value) each;have h8:∀y∈(List.range len).map fun i=>(q i).2,y.length=8:=fun y hy=>by
   obtain⟨i,hi,rfl⟩:=List.mem_map.1 hy;obtain⟨ev,vv,e,_⟩:=(hq i (by simpa using hi)).1.1;rw[e];rfl
  refine⟨(List.range len).map fun i=>(q i).1,⟨some a,m,((List.range len).map fun i=>(q i).2).flatten,by simp,by simpa using hl,by unfold maxLen at hm;omega,?_,?_,by rw[flat_len h8];simp,fun k hk=> ?_⟩,fun k hk=> ?_⟩
  ·have hw:(len+(m-len))*120≤reachBytes:=by
    have:=List.all_eq_true.1 hs ((len+(m-len))*120) (by simp[DataW.weights,und_Cmds,bytes_Cmd]);simpa using this
   have:=reachBytes_lt;simp;omega
  ·refine cellsAt_of W a len 8 _ (by decide) (by rw[flat_len h8];simp) fun i hi j hj=> ?_
   rw[flat_at h8 i j (by simpa using hi) hj,(hq i hi).2 j hj];simp[hi]
  ·have hk:k<len:=by simpa using hk
   have e1:((List.range len).map fun i=>(q i).1)[k]?.getD default=(q k).1:=by simp[hk]
   have e3:(((List.range len).map fun i=>(q i).2).flatten.drop (k*8)).take 8=(q k).2:=by
    obtain⟨ev,vv,e,_⟩:=(hq k hk).1.1;have hl8:(q k).2.length=8:=by rw[e];rfl
    apply List.ext_getElem?;intro j;by_cases hj:j<8
    ·rw[List.getElem?_take_of_lt hj,List.getElem?_drop,flat_at h8 k j (by simpa using hk) hj]
     simp[hk]
    ·rw[List.getElem?_eq_none (by rw[List.length_take];omega),List.getElem?_eq_none (by omega)]
   rw[e1,e3];exact(hq k hk).1.1
  ·have hk:k<len:=by simpa using hk
   have e1:((List.range len).map fun i=>(q i).1)[k]?.getD default=(q k).1:=by simp[hk]
   rw[e1];exact(hq k hk).1.2
end
end Go.Proofs.YtclgllmipcbagaaGreatDoor
namespace Go.Proofs.YtclgllmipcbagaaGreatDoor
open Go.RowKit Go.ChangeShapes
set_option linter.unusedVariables false
set_option linter.unusedSimpArgs false
set_option maxRecDepth 100000
set_option maxHeartbeats 16000000
theorem err_star: "*" ++ "errors.errorString" = "*errors.errorString" :=by decide
theorem err_row (u:TypeId)(h:Tryz.prog.typeName? 3 u=some "*errors.errorString"):u=439:=
 typeName_ptr_named (nm:= "errors.errorString") (by rw[err_star];kernel_rfl) (by kernel_rfl) (by decide) u (by rw[err_star];exact h)
theorem err_struct:∃f:Field,Tryz.prog.underlying 441=some (.struct #[f])∧f.type=9∧f.offset=0:=
 ⟨_,Tryz.underlying441,rfl,rfl⟩
theorem err_iface:∃ms,Tryz.prog.underlying 135=some (.interface ms):=⟨_,Tryz.underlying135⟩
theorem max_some {W:World}(h:W.ShapedOpen Tryz.prog):∃m,W.cell? ⟨1,0,none⟩=some (.int .i64 m):=
 cell_of_shapedOpen_int (t:=3) (zero:= #[.int .i64 0]) h (of_decide_eq_true (by kernel_rfl)) (by kernel_rfl) rfl (by kernel_rfl) (by kernel_rfl) (by kernel_rfl)
theorem env_ofC {W:World}(h:laidMetH Tryz.prog Rows.sessionChecksRow.laid W)(hs:W.ShapedOpen Tryz.prog):EnvS W:=by
 rw[MakeChecks.laidMetH_plain _ _ _ (by kernel_rfl)]at h;have h2:=h.tail.tail;have h4:=h2.tail.tail;have h5:=h4.tail;obtain⟨f,hf1,hf2,hf3⟩:=err_struct;obtain⟨ms,hms⟩:=err_iface;refine⟨⟨?_,?_⟩,?_,max_some hs⟩
 ·obtain⟨a,s,h6,_,_,_⟩:=laid_sentinel (P:=Tryz.prog) (W:=W) (n:= "strconv.ErrRange") (nm:= "*errors.errorString") (g:=3) (ti:=135) (tp:=439) (te:=441) (ts:=9) h4 (by kernel_rfl) (by kernel_rfl) hms
   err_row (by kernel_rfl) hf1 hf2 hf3 (by kernel_rfl) (by kernel_rfl) (by kernel_rfl)
  exact⟨_,by simpa using World.var?_cell (show Tryz.prog.globalNamed "strconv.ErrRange" =some 3 by kernel_rfl) h6 0,.inr ⟨_,_,rfl⟩⟩
 ·exact Lib.tabIs_of_head (g:=0) (t:=377) (e:=315) (n:=20) (by kernel_rfl) (by kernel_rfl) (by kernel_rfl) (by kernel_rfl) (by kernel_rfl) (by kernel_rfl) h2
 ·obtain⟨a,s,h6,_,_,_⟩:=laid_sentinel (P:=Tryz.prog) (W:=W) (n:= "strconv.ErrSyntax") (nm:= "*errors.errorString") (g:=2) (ti:=135) (tp:=439) (te:=441) (ts:=9) h5 (by kernel_rfl) (by kernel_rfl) hms
   err_row (by kernel_rfl) hf1 hf2 hf3 (by kernel_rfl) (by kernel_rfl) (by kernel_rfl)
  exact⟨_,by simpa using World.var?_cell (show Tryz.prog.globalNamed "strconv.ErrSyntax" =some 2 by kernel_rfl) h6 0,.inr ⟨_,_,rfl⟩⟩
theorem und_string:Tryz.prog.underlying 9=some .string:=by kernel_rfl
theorem handed_and_shaped {H:Type}{enc:TypeId×Value→H}{a:Assume}{C:Checked}{os:Os}{f:FuncId}{fn:Func}{s:ChangeSpec}{conds:List PathCond}{apart fresh handsOn again:Bool}{X:World→Array Value→Prop}
 (hX:∀(w w':World) (args:Array Value),w.heap=w'.heap→X w args→X w' args)
 (own:ownKnob C.prog.godebug=none) (started:os.Started) (noInit:C.prog.inits.idxOf? f=none) (hfn:C.prog.funcs[f]? =some fn)
 (witness:∃(w:World) (tape:Tape) (i:Input),w.os=os∧(w.forCall tape i).Shaped C.prog∧i.vars=[]∧Input.okWide C.prog (w.forCall tape i) .any w.heap.size f i∧
   ((s.pre enc C.prog fn conds apart (w.forCall tape i).memory i.args∧X (w.forCall tape i).memory i.args)∧sizedMet enc C.prog fn (OpenSpec.ofChange s) apart (w.forCall tape i).memory i.args)∧a.holds C.prog (lone (Frame.enter C.prog f i.args .normal) [] (w.forCall tape i)))
 (contract:∀(W:World) (base:Nat) (args:Array Value) (ds gs:List (DataW H)) (before:List MemPlace),
   (∀ (j:Nat) t v,fn.params[j]? =some t→args[j]? =some v→Value.okWide C.prog W .any base t v)→
   DataW.Whole enc C.prog fn.params.toList s.vars apart W args.toList ds gs before→
   conds.all (PathCond.test C.prog ⟨fn.params.toList,ds,s.plain.varTypes C.prog,gs⟩)=true→
   (DataW.weightsEach C.prog (fn.params.toList++s.plain.varTypes C.prog) (ds++gs)).all (· ≤reachBytes)=true→X W args→
   W.ShapedOpen C.prog→
   a.holds C.prog (lone (Frame.enter C.prog f args .normal) [] W)→
   Calls C.prog f args W fun e W'=>∃v,e= .returned v∧s.post enc C.prog fn apart fresh handsOn again W args v W'):
 ReturnsInHanded a C os f .any (fun w args=>(s.pre enc C.prog fn conds apart w args∧X w args)∧sizedMet enc C.prog fn (OpenSpec.ofChange s) apart w args) (s.post enc C.prog fn apart fresh handsOn again):=by
 refine returnsInHanded_of_calls own started noInit witness ?_;intro w tape i _ hsh _ hok hpre hholds;obtain⟨_,_,_,fn',hfn',_,_,_,_,hval⟩:=hok;have e:fn'=fn:=Option.some.inj (hfn'.symm.trans hfn);subst e;obtain⟨⟨⟨ds,gs,before,hw,hc⟩,hx⟩,hz⟩:=hpre;have hw':=DataW.Whole.of_heap (w':=w.forCall tape i) (by rfl) hw;refine(contract (w.forCall tape i) w.heap.size i.args ds gs before hval hw' hc (hz.weights hw) (hX _ _ _ (by rfl) hx) hsh hholds).mono fun e W' ⟨v,he,hp⟩=> ?_;subst he;exact ChangeSpec.post_blind hp
end Go.Proofs.YtclgllmipcbagaaGreatDoor
