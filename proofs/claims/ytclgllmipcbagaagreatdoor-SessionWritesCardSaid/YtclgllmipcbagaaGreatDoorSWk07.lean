/-
  Parts of the proof: XYa XRd XV1 XV6 XYb
-/
import Derived.Test.YtclgllmipcbagaaGreatDoorSWk03
import Derived.Test.YtclgllmipcbagaaGreatDoorSWk06
import Derived.Test.YtclgllmipcbagaaGreatDoorBk24
import Derived.Test.YtclgllmipcbagaaGreatDoorRows
import Derived.ProofKit
import Derived.OpenShut
import Derived.ChangeOld
import Derived.Below
import Derived.Carry
import Derived.SizedLaws
import Derived.Lib.SmallJoins
import Derived.Deep.Slices
import Derived.Deep.SlicePairs
import Derived.Deep.Fields
import Derived.WalkKit
import Derived.Test.YtclgllmipcbagaaGreatDoorBk00
import Derived.Test.YtclgllmipcbagaaGreatDoorSWk00
import Derived.Test.YtclgllmipcbagaaGreatDoorBkLast
import Derived.Test.YtclgllmipcbagaaGreatDoorBk19
import Derived.Test.YtclgllmipcbagaaGreatDoorSWk01
import Derived.Test.YtclgllmipcbagaaGreatDoorBk22
import Derived.Test.YtclgllmipcbagaaGreatDoorBk15
namespace Go.Proofs.YtclgllmipcbagaaGreatDoor
open Go.RowKit
set_option linter.unusedVariables false
set_option linter.unusedSimpArgs false
set_option maxRecDepth 100000
set_option maxHeartbeats 16000000
theorem guessQ_sm {t:List UInt8}(h:t.length≤4096):SmCmd (guessQ t):=by
 have hp:=part_at t;have h1:=hp 1;have h2:=hp 2;have h3:=hp 3;unfold guessQ;dsimp only;unfold SmCmd;repeat' split
 all_goals(refine ⟨?_,?_,?_⟩<;>(first|(dsimp only[cmd0];simp;done)|(dsimp only;omega)))
theorem q_ReadF (t:List UInt8)(w:World)(hl:t.length≤140737488355328):Calls Tryz.prog 24 #[.string (str t)] w (RetReadF (readP t) w):=by
 obtain⟨Z,HZ⟩:∃Z,Hid (Z=readP t):=⟨_,rfl⟩;rw[← HZ.out];have hz:=HZ.out;rw[readQ_eq]at hz;have hsz:=str_size t;have HR:=hid (Blk.new w #[.int .i64 0,.string ⟨#[]⟩,.string ⟨#[]⟩,.string ⟨#[]⟩,.int .i64 0,.int .i64 0,.slice none 0 0,.slice none 0 0] 39);have HB0:Hid (Below w.heap.size w (w.alloc (.cells #[.int .i64 0,.string ⟨#[]⟩,.string ⟨#[]⟩,.string ⟨#[]⟩,.int .i64 0,.int .i64 0,.slice none 0 0,.slice none 0 0] 39))):=by show Below _ _ _;go_grown
 clear HZ;go_enter Tryz.func24,Tryz.ntmps24;go_upto_region 1 with fail;generalize w.alloc (.cells #[.int .i64 0,.string ⟨#[]⟩,.string ⟨#[]⟩,.string ⟨#[]⟩,.int .i64 0,.int .i64 0,.slice none 0 0,.slice none 0 0] 39)=W0 at*
 by_cases hlong:4096<t.length
 ·rw[if_pos hlong]at hz
  have HZ:=hid hz;have hlI:(4096:Int)<((str t).size:Int):=by omega
  have lr:=HR.out.lt;obtain⟨r0,r1,r2,r3,r4,r5,r6,r7⟩:=Blk.q8 HR.out;obtain⟨g0,g1,g2,g3,g4,g5,g6,g7⟩:=Blk.z8 HR.out;clear hz hlong;go_wp2_with fail;refine bodyPost_ret (results_cellB rfl rfl (load_cmdQ (blk8 HR.out _ _ _ _ _ _ _ _))) rfl ?_;rw[HZ.out];exact(guess_finQ (w:=w) (c:=cmd0) (ev:= .slice none 0 0) (vv:= .slice none 0 0) HR.out (Nat.le_refl _) HB0.out (EdgesR.nil _) (IntsR.nil _) (fun g e=>e.elim (fun e=>by cases e) (fun e=>by cases e))).read 19
 rw[if_neg hlong]at hz;have HZ:=hid hz;have hlI:¬(4096:Int)<((str t).size:Int):=by omega
 have HSM:=hid (guessQ_sm (t:=t) (by omega));have HGU:=hid (q_guess t W0 (by omega));clear hz hlong;generalize guessQ t=c at*
 go_wp2_with fail;refine HGU.out.mono ?_;rintro e w1 ⟨ev,vv,rfl,he,hv,hfr,hB1⟩;obtain⟨ea,ec,rfl,_⟩:=id he;obtain⟨va,vc,rfl,_⟩:=id hv;have hRW:w.heap.size<W0.heap.size:=HR.out.lt;have HVR:Hid (∀ g,(Value.slice ea c.g.es.length ec).ownBlock=some g∨(Value.slice va c.vals.length vc).ownBlock=some g→w.heap.size<g):=fun g e=>by have:=hfr g e;omega
 have HB1:=hid (up HB0.out hB1);have HR1:=hid (HR.out.below hB1);have HEV:=hid he;have HVV:=hid hv;clear he hv hfr hRW hB1 HR HB0 HGU;dsimp only;go_upto_region 4 with fail;have HC2:=hid (Blk.new w1 #[.int .i64 c.kind,.string (str c.name),.string (str c.on),.string (str c.other),.int .i64 c.q,.int .i64 c.g.n,.slice ea c.g.es.length ec,.slice va c.vals.length vc] 39);have hB2:Below w1.heap.size w1 (w1.alloc (.cells #[.int .i64 c.kind,.string (str c.name),.string (str c.on),.string (str c.other),.int .i64 c.q,.int .i64 c.g.n,.slice ea c.g.es.length ec,.slice va c.vals.length vc] 39)):=by go_grown
 have HB2:=hid (up HB1.out hB2);have HR2:=hid (HR1.out.below hB2);have HEV2:=hid (HEV.out.below hB2);have HVV2:=hid (HVV.out.below hB2);generalize w1.alloc (.cells #[.int .i64 c.kind,.string (str c.name),.string (str c.on),.string (str c.other),.int .i64 c.q,.int .i64 c.g.n,.slice ea c.g.es.length ec,.slice va c.vals.length vc] 39)=W2 at*
 generalize w1.heap.size=Cb at*
 clear hB2 HB1 HR1 HEV HVV;have HTX:=hid (fun (W:World) (h:Below W2.heap.size W2 W)=>q_Text c (.agg #[.int .i64 c.kind,.string (str c.name),.string (str c.on),.string (str c.other),.int .i64 c.q,.int .i64 c.g.n,.slice ea c.g.es.length ec,.slice va c.vals.length vc]) W ⟨_,_,rfl,HEV2.out.below h,HVV2.out.below h⟩ HSM.out);obtain⟨c0,c1,c2,c3,c4,c5,c6,c7⟩:=Blk.q8 HC2.out;have lc:=HC2.out.lt;have HT:=hid (HTX.out W2 (Below.refl _ _));unfold limV at HT;clear HTX;generalize hre:(textR c).1=re at*
 generalize hrs:(textR c).2=rs at*
 have HRE:=hid hre;have HRS:=hid hrs;clear hre hrs;go_wp2_with fail;refine HT.out.mono ?_;rintro e w3 ⟨rfl,hB3⟩;have HB3:=hid (up HB2.out hB3);have HC3:=hid (HC2.out.below hB3);have HR3:=hid (HR2.out.below hB3);have HEV3:=hid (HEV2.out.below hB3);have HVV3:=hid (HVV2.out.below hB3);clear hB3 HB2 HC2 HR2 HEV2 HVV2 HT c0 c1 c2 c3 c4 c5 c6 c7 lc;obtain⟨c0,c1,c2,c3,c4,c5,c6,c7⟩:=Blk.q8 HC3.out;have lc:=HC3.out.lt;have lr:=HR3.out.lt;obtain⟨r0,r1,r2,r3,r4,r5,r6,r7⟩:=Blk.q8 HR3.out;obtain⟨g0,g1,g2,g3,g4,g5,g6,g7⟩:=Blk.z8 HR3.out;have hz:=HZ.out;dsimp only;by_cases he:re=0
 case neg=>
  rw[if_pos (.inl he)]at hz;have HZ2:=hid hz;have hb:(re !=0)=true:=by simpa using he
  clear hz he;go_wp2_with fail;refine bodyPost_ret (results_cellB rfl rfl (load_cmdQ (blk8 HR3.out _ _ _ _ _ _ _ _))) rfl ?_;rw[HZ2.out];exact(guess_finQ (w:=w) (c:=cmd0) (ev:= .slice none 0 0) (vv:= .slice none 0 0) HR3.out (Nat.le_refl _) HB3.out (EdgesR.nil _) (IntsR.nil _) (fun g e=>e.elim (fun e=>by cases e) (fun e=>by cases e))).read 4
 subst he;have hse:=str_eqb rs t;by_cases hst:rs=t
 case neg=>
  rw[if_pos (.inr hst)]at hz;have HZ2:=hid hz;have hb:(rs==t)=false:=by simpa using hst
  rw[hb]at hse;clear hz hst hb;go_wp2_with fail;refine bodyPost_ret (results_cellB rfl rfl (load_cmdQ (blk8 HR3.out _ _ _ _ _ _ _ _))) rfl ?_;rw[HZ2.out];exact(guess_finQ (w:=w) (c:=cmd0) (ev:= .slice none 0 0) (vv:= .slice none 0 0) HR3.out (Nat.le_refl _) HB3.out (EdgesR.nil _) (IntsR.nil _) (fun g e=>e.elim (fun e=>by cases e) (fun e=>by cases e))).read 4
 rw[if_neg (fun h=>h.elim (fun h=>h rfl) fun h=>h hst)]at hz;have HZ2:=hid hz;have hb:(rs==t)=true:=by simpa using hst
 rw[hb]at hse;clear hz hst hb;go_wp2_with fail;refine bodyPost_ret (results_cellB rfl rfl (load_cmdQ (blk8 HR3.out _ _ _ _ _ _ _ _))) rfl ?_;rw[HZ2.out];exact(guess_finQ (w:=w) (c:=c) HR3.out (Nat.le_refl _) HB3.out HEV3.out HVV3.out HVR.out).read 0
end Go.Proofs.YtclgllmipcbagaaGreatDoor
namespace Go.Proofs.YtclgllmipcbagaaGreatDoor
set_option linter.unusedVariables false
set_option linter.unusedSimpArgs false
set_option maxRecDepth 100000
set_option maxHeartbeats 16000000
open Go.ChangeShapes Go.WideShapes Go.ChangeAt Go.RowKit Go.Deep Go.Joins
theorem law_own:ownKnob Tryz.prog.godebug=none:=by kernel_rfl
theorem law_laidOut:laidOutB Tryz.prog=true:=by kernel_rfl
theorem und_bool:Tryz.prog.underlying 4=some .bool:=by kernel_rfl
theorem weigh {H:Type}{P:Program}{ts:List TypeId}{ds:List (DataW H)}(h:(DataW.weightsEach P ts ds).all (· ≤reachBytes)=true)(j:Nat)(t:TypeId)(d:DataW H)(ht:ts[j]? =some t)(hd:ds[j]? =some d):(d.weights P t).all (· ≤reachBytes)=true:=by
 rw[List.all_eq_true]at h⊢;intro k hk;exact h k (DataW.weights_mem_each ht hd k hk)
end Go.Proofs.YtclgllmipcbagaaGreatDoor
namespace Go.Proofs.YtclgllmipcbagaaGreatDoor
open Go.RowKit
set_option linter.unusedVariables false
set_option linter.unusedSimpArgs false
set_option maxRecDepth 100000
set_option maxHeartbeats 16000000
def CmC (m:World)(ys:List (List Value))(l:List Cmd):Prop:=ys.length=l.length∧∀k,k<l.length→CmV m (l[k]?.getD default) (ys[k]?.getD [])
theorem CmC.nil (m:World):CmC m [] []:=⟨rfl,fun k hk=>by cases hk⟩
theorem CmC.snoc {m:World}{ys:List (List Value)}{l:List Cmd}{y:List Value}{c:Cmd}(h:CmC m ys l)(hc:CmV m c y):CmC m (ys++[y]) (l++[c]):=by
 refine⟨by simp[h.1],fun k hk=> ?_⟩;by_cases e:k<l.length
 ·rw[List.getElem?_append_left e,List.getElem?_append_left (by rw[h.1];exact e)]
  exact h.2 k e
 ·have e:k=l.length:=by simp at hk;omega
  subst e;have h2:(ys++[y])[l.length]? =some y:=by rw[← h.1];simp
  have h1:(l++[c])[l.length]? =some c:=by simp
  rw[h1,h2];exact hc
theorem CmV.sub {w w':World}{x:Cmd}{vs:List Value}(h:CmV w x vs)(k:Sub w w'):CmV w' x vs:=by
 obtain⟨ev,dv,e,h1,h2⟩:=h;exact⟨ev,dv,e,h1.sub k,h2.sub k⟩
theorem CmC.sub {m m':World}{ys:List (List Value)}{l:List Cmd}(h:CmC m ys l)(k:Sub m m'):CmC m' ys l:=⟨h.1,fun j hj=>(h.2 j hj).sub k⟩
def RetBo (P:Prop)(w:World)(e:Ending)(w':World):Prop:=∃b,e= .returned (.bool b)∧(b=true→P)∧Below w.heap.size w w'
theorem q_FewCmd (c:Cmd)(cv:Value)(w:World)(hc:CmdR w cv c):Calls Tryz.prog 13 #[cv] w (RetBo True w):=by
 obtain⟨ea,ec,va,vc,rfl,he,hv⟩:=hc.form;have HG:=hid (fun (W:World) (h:Below w.heap.size w W)=>r08_Few c.g (.agg #[.int .i64 c.g.n,.slice ea c.g.es.length ec]) W ⟨_,rfl,he.below h⟩);obtain⟨a',cap',ev,hcp,hcm,hvb,hvc⟩:=id hv;injection ev with ev1 ev2 ev3
 subst ev1 ev3;have HVC:=hid hvc;have HXC:=hid (Blk.new w #[.int .i64 c.kind,.string (str c.name),.string (str c.on),.string (str c.other),.int .i64 c.q,.int .i64 c.g.n,.slice ea c.g.es.length ec,.slice va c.vals.length vc] 39);have HB0:Hid (Below w.heap.size w (w.alloc (.cells #[.int .i64 c.kind,.string (str c.name),.string (str c.on),.string (str c.other),.int .i64 c.q,.int .i64 c.g.n,.slice ea c.g.es.length ec,.slice va c.vals.length vc] 39))):=by show Below _ _ _;go_grown
 have z1:=str_size c.name;have z2:=str_size c.on;have z3:=str_size c.other;clear he hv hvc hc;go_enter Tryz.func13,Tryz.ntmps13;go_upto_region 1 with fail;generalize w.alloc (.cells #[.int .i64 c.kind,.string (str c.name),.string (str c.on),.string (str c.other),.int .i64 c.q,.int .i64 c.g.n,.slice ea c.g.es.length ec,.slice va c.vals.length vc] 39)=W0 at*
 have lx:=HXC.out.lt;have x1:=HXC.out.cell 1;have x2:=HXC.out.cell 2;have x3:=HXC.out.cell 3;have x5:=HXC.out.cell 5;have x6:=HXC.out.cell 6;have x7:=HXC.out.cell 7;simp only[xG,xH,xI]at x1 x2 x3 x5 x6 x7;by_cases p1:60<c.name.length
 case pos=>
  have g1:decide ((60:Int)<(c.name.length:Int))=true:=by simp;omega
  clear p1;go_wp2_with fail;go_ret;exact⟨_,rfl,fun _=>trivial,HB0.out⟩
 have g1:decide ((60:Int)<(c.name.length:Int))=false:=by simp;omega
 clear p1;by_cases p2:60<c.on.length
 case pos=>
  have g2:decide ((60:Int)<(c.on.length:Int))=true:=by simp;omega
  clear p2;go_wp2_with fail;go_ret;exact⟨_,rfl,fun _=>trivial,HB0.out⟩
 have g2:decide ((60:Int)<(c.on.length:Int))=false:=by simp;omega
 clear p2;by_cases p3:60<c.other.length
 case pos=>
  have g3:decide ((60:Int)<(c.other.length:Int))=true:=by simp;omega
  clear p3;go_wp2_with fail;go_ret;exact⟨_,rfl,fun _=>trivial,HB0.out⟩
 have g3:decide ((60:Int)<(c.other.length:Int))=false:=by simp;omega
 clear p3;by_cases p4:40<c.vals.length
 case pos=>
  have g4:decide ((40:Int)<(c.vals.length:Int))=true:=by simp;omega
  clear p4;go_wp2_with fail;go_ret;exact⟨_,rfl,fun _=>trivial,HB0.out⟩
 have g4:decide ((40:Int)<(c.vals.length:Int))=false:=by simp;omega
 have HN40:Hid (c.vals.length≤40):=by show _≤_;omega
 clear p4;generalize smallB c.g 6 9=sm at*
 go_wp2_with fail;refine(HG.out _ HB0.out).mono ?_;rintro e w1 ⟨rfl,hB1⟩;have HB1:=hid (up HB0.out hB1);have HX1:=hid (HXC.out.below hB1);have HV1:=hid (HVC.out.below HB1.out);clear HVC;clear x1 x2 x3 x5 x6 x7 lx hB1 HXC HB0 HG g1 g2 g3 g4 z1 z2 z3;dsimp only;cases sm with
 |false=>
  go_wp2_with fail
  go_ret
  exact⟨_,rfl,fun _=>trivial,HB1.out⟩
 |true=>
 go_wp2_with fail;go_loopw [3] (fun i wr=>∃k:Nat,k≤c.vals.length∧i= .int .i64 k∧Hid (wr=w1)) (fun i _=>c.vals.length-(intOf i).toNat);case atStart=>exact⟨0,Nat.zero_le _,rfl,rfl⟩
 case round=>
  obtain⟨k,hk,rfl,hw⟩:=hrel;obtain rfl:=hw.out;have hk0:(0:Int)≤(k:Int):=by omega
  have wk:IntKind.i64.wrap ((k:Int)+1)=(k:Int)+1:=IntWalk.i64_in _ (by have:=HN40.out;omega);have lx:=HX1.out.lt;have x7:=HX1.out.cell 7;simp only[xG,xH,xI]at x7;by_cases hlt:k<c.vals.length
  ·have hlt':(k:Int)<(c.vals.length:Int):=by omega
   obtain⟨b,off,rfl,hb,hcs⟩:=HV1.out.int (by omega);have c0:=hcs k hlt;clear hcs;generalize c.vals[k]?.getD 0=x at*
   cases hi:inB x with
   |false=>
    go_wp2_with fail
    refine(r17_In x _).mono ?_
    rintro e w' ⟨rfl,rfl⟩
    dsimp only
    go_wp2_with fail
    go_roundw
    case rel=>exact⟨k+1,by omega,by go_num,hid (by first|rfl|trivial)⟩
    case measure=>simp[intOf];omega
   |true=>
   by_cases hl:x< -60
   case pos=>
    have hd1:decide (x< -60)=true:=by simpa using hl
    go_wp2_with fail;refine(r17_In x _).mono ?_;rintro e w' ⟨rfl,rfl⟩;dsimp only;go_wp2_with fail;go_ret;exact⟨_,rfl,fun _=>trivial,HB1.out⟩
   by_cases hh:60<x
   case pos=>
    have hd2:decide (60<x)=true:=by simpa using hh
    have hd1:decide (x< -60)=false:=by simpa using hl
    go_wp2_with fail;refine(r17_In x _).mono ?_;rintro e w' ⟨rfl,rfl⟩;dsimp only;go_wp2_with fail;go_ret;exact⟨_,rfl,fun _=>trivial,HB1.out⟩
   have hd2:decide (60<x)=false:=by simpa using hh
   have hd1:decide (x< -60)=false:=by simpa using hl
   go_wp2_with fail;refine(r17_In x _).mono ?_;rintro e w' ⟨rfl,rfl⟩;dsimp only;go_wp2_with fail;go_roundw;case rel=>exact⟨k+1,by omega,by go_num,hid (by first|rfl|trivial)⟩
   case measure=>simp[intOf];omega
  ·have hlt':¬(k:Int)<(c.vals.length:Int):=by omega
   go_wp2_with fail;go_ret;exact⟨_,rfl,fun _=>trivial,HB1.out⟩
theorem q_Read (t:List UInt8)(w:World)(hl:t.length≤140737488355328):Calls Tryz.prog 24 #[.string (str t)] w (RetRead (readP t) w):=by
 refine(q_ReadF t w hl).mono ?_;exact fun e w' h=>h.read
theorem l_Writes (c:Cmd)(cv:Value)(t:List UInt8)(w:World)(hE:EnvS w)(hc:CmdR w cv c)(hm:SmCmd c)(hl:t.length≤140737488355328):
 Calls Tryz.prog 4 #[cv,.string (str t)] w fun e w'=>e= .returned (.bool true)∧Below w.heap.size w w':=by
 have HE:=hid hE;have HFC:=hid (fun W (h:Below w.heap.size w W)=>q_FewCmd c _ W (hc.below h));have HTX:=hid (fun W (h:Below w.heap.size w W)=>s_Text c _ W (hE.below h).env (hc.below h) hm);have HTQ:=hid (fun W (h:Below w.heap.size w W)=>q_Text c _ W (hc.below h) hm);have HRD:=hid (fun W (h:Below w.heap.size w W)=>s_Read t W (hE.below h) hl);have HRQ:=hid (fun W=>q_Read t W hl);have HSU:=hid (fun W=>s_Sum t W (by omega));have HSQ:=hid (fun W=>q_Sum t W (by omega));obtain⟨ea,ec,va,vc,rfl,he,hv⟩:=hc.form;have HX:=hid (Blk.new w #[.int .i64 c.kind,.string (str c.name),.string (str c.on),.string (str c.other),.int .i64 c.q,.int .i64 c.g.n,.slice ea c.g.es.length ec,.slice va c.vals.length vc] 31)
 have hB:Below w.heap.size w (w.alloc (.cells #[.int .i64 c.kind,.string (str c.name),.string (str c.on),.string (str c.other),.int .i64 c.q,.int .i64 c.g.n,.slice ea c.g.es.length ec,.slice va c.vals.length vc] 31)):=by go_grown
 have HB0:=hid hB;have zt:=str_size t;clear hB he hv hm hE;go_enter Tryz.func4,Tryz.ntmps4;go_upto_region 1 with fail;generalize w.alloc (.cells #[.int .i64 c.kind,.string (str c.name),.string (str c.on),.string (str c.other),.int .i64 c.q,.int .i64 c.g.n,.slice ea c.g.es.length ec,.slice va c.vals.length vc] 31)=W0 at*
 have lx:=HX.out.lt;obtain⟨x0,x1,x2,x3,x4,x5,x6,x7⟩:=Blk.q8 HX.out;have HAW:=hid (fun W (h:Below w.heap.size w W)=>l_awakeS W (HE.out.below h));go_wp2_with fail;refine(HFC.out _ HB0.out).mono ?_;rintro e w1 ⟨b,rfl,_,hB1⟩;have HB1:=hid (up HB0.out hB1);have HX1:=hid (HX.out.below hB1);clear hB1 x0 x1 x2 x3 x4 x5 x6 x7 lx HB0 HX HFC;dsimp only;cases b with
 |false=>
  go_wp2_with fail
  refine(HAW.out w1 HB1.out).mono ?_
  rintro e w2 ⟨rfl,hB2⟩
  have HB2:=hid (up HB1.out hB2)
  dsimp only
  go_wp2_with fail
  go_ret
  exact⟨rfl,HB2.out⟩
 |true=>
 by_cases hbad:(300<t.length∧t.length≤4096)∨8192<t.length
 case pos=>
  by_cases h1:300<t.length
  ·have g1:decide ((300:Int)<(t.length:Int))=true:=by simp;omega
   by_cases h2:t.length≤4096
   ·have g2:decide ((t.length:Int)≤4096)=true:=by simp;omega
    clear h1 h2 hbad;go_wp2_with fail;refine(HAW.out w1 HB1.out).mono ?_;rintro e w2 ⟨rfl,hB2⟩;have HB2:=hid (up HB1.out hB2);dsimp only;go_wp2_with fail;go_ret;exact⟨rfl,HB2.out⟩
   ·have g2:decide ((t.length:Int)≤4096)=false:=by simp;omega
    have g3:decide ((8192:Int)<(t.length:Int))=true:=by simp;omega
    clear h1 h2 hbad;go_wp2_with fail;refine(HAW.out w1 HB1.out).mono ?_;rintro e w2 ⟨rfl,hB2⟩;have HB2:=hid (up HB1.out hB2);dsimp only;go_wp2_with fail;go_ret;exact⟨rfl,HB2.out⟩
  ·omega
 have HCM:Hid (∀ W,Below w1.heap.size w1 W→∀v1 v2 c',CmdR W v1 c'→CmdR W v2 c'→Calls Tryz.prog 25 #[v1,v2] W fun e w'=>e= .returned (.bool true)∧Below W.heap.size W w'):=fun W h v1 v2 c' h1 h2=>q_SameCmd c' v1 v2 W h1 h2;have hgo:∃g1 g2 g3:Bool,decide ((300:Int)<(t.length:Int))=g1∧decide ((t.length:Int)≤4096)=g2∧decide ((8192:Int)<(t.length:Int))=g3∧((g1=true∧g2=false)∨g1=false)∧g3=false:=by
  refine⟨_,_,_,rfl,rfl,rfl,?_,by simp;omega⟩;by_cases h1:300<t.length
  ·exact .inl ⟨by simp;omega,by simp;omega⟩
  ·exact .inr (by simp;omega)
 obtain⟨g1,g2,g3,e1,e2,e3,hg,rfl⟩:=hgo;clear hbad;obtain⟨x0,x1,x2,x3,x4,x5,x6,x7⟩:=Blk.q8 HX1.out;have lx:=HX1.out.lt;rcases hg with ⟨rfl,rfl⟩|rfl
 all_goals
  go_upto_region 3 with fail
  go_wp2_with fail
  refine(HTX.out _ HB1.out).mono ?_
  rintro e w2 ⟨rfl,hB2⟩
  have HB2:=hid (up HB1.out hB2)
  have HX2:=hid (HX1.out.below hB2)
  clear hB2 x0 x1 x2 x3 x4 x5 x6 x7 lx HB1 HX1 HTX
  obtain⟨x0,x1,x2,x3,x4,x5,x6,x7⟩:=Blk.q8 HX2.out
  have lx:=HX2.out.lt
  unfold limV at HTQ⊢
  generalize textR c=r at*
  obtain⟨te,tx⟩:=r
  dsimp only at HTQ⊢
  go_wp2_with fail
  refine(HTQ.out _ HB2.out).mono ?_
  rintro e w3 ⟨rfl,hB3⟩
  have HB3:=hid (up HB2.out hB3)
  clear hB3 x0 x1 x2 x3 x4 x5 x6 x7 lx HB2 HX2 HTQ
  dsimp only
  go_wp2_with fail
  refine(HRD.out _ HB3.out).mono ?_
  rintro e w4 ⟨v4,rfl,hc4,hB4⟩
  obtain⟨ea',ec',va',vc',rfl,he',hv'⟩:=hc4.form
  have HC4:=hid hc4
  have HB4:=hid (up HB3.out hB4)
  clear hB4 hc4 he' hv' HB3 HRD
  generalize readP t=rd at*
  obtain⟨re,rc⟩:=rd
  dsimp only at HC4 HRQ⊢
  go_upto_region 6 with fail
  have HY:=hid (Blk.new w4 #[.int .i64 rc.kind,.string (str rc.name),.string (str rc.on),.string (str rc.other),.int .i64 rc.q,.int .i64 rc.g.n,.slice ea' rc.g.es.length ec',.slice va' rc.vals.length vc'] 31)
  have hB5:Below w4.heap.size w4 (w4.alloc (.cells #[.int .i64 rc.kind,.string (str rc.name),.string (str rc.on),.string (str rc.other),.int .i64 rc.q,.int .i64 rc.g.n,.slice ea' rc.g.es.length ec',.slice va' rc.vals.length vc'] 31)):=by go_grown
  have HB5:=hid (up HB4.out hB5)
  have HC5:=hid (HC4.out.below hB5)
  generalize w4.alloc (.cells #[.int .i64 rc.kind,.string (str rc.name),.string (str rc.on),.string (str rc.other),.int .i64 rc.q,.int .i64 rc.g.n,.slice ea' rc.g.es.length ec',.slice va' rc.vals.length vc'] 31)=W5 at*
  generalize w4.heap.size=Y at*
  clear hB5 HB4 HC4
  go_wp2_with fail
  refine(HRQ.out _).mono ?_
  rintro e w6 ⟨v6,rfl,hc6,hB6⟩
  obtain⟨ea'',ec'',va'',vc'',rfl,he',hv'⟩:=hc6.form
  have HC6:=hid hc6
  have HB6:=hid (up HB5.out hB6)
  have HY6:=hid (HY.out.below hB6)
  have HD6:=hid (HC5.out.below hB6)
  clear hB6 hc6 he' hv' HB5 HRQ HY HC5
  dsimp only at HC6⊢
  go_upto_region 7 with fail
  have HZ:=hid (Blk.new w6 #[.int .i64 rc.kind,.string (str rc.name),.string (str rc.on),.string (str rc.other),.int .i64 rc.q,.int .i64 rc.g.n,.slice ea'' rc.g.es.length ec'',.slice va'' rc.vals.length vc''] 39)
  have hB7:Below w6.heap.size w6 (w6.alloc (.cells #[.int .i64 rc.kind,.string (str rc.name),.string (str rc.on),.string (str rc.other),.int .i64 rc.q,.int .i64 rc.g.n,.slice ea'' rc.g.es.length ec'',.slice va'' rc.vals.length vc''] 39)):=by go_grown
  have HB7:=hid (up HB6.out hB7)
  have HC7:=hid (HC6.out.below hB7)
  have HD7:=hid (HD6.out.below hB7)
  have HY7:=hid (HY6.out.below hB7)
  generalize w6.alloc (.cells #[.int .i64 rc.kind,.string (str rc.name),.string (str rc.on),.string (str rc.other),.int .i64 rc.q,.int .i64 rc.g.n,.slice ea'' rc.g.es.length ec'',.slice va'' rc.vals.length vc''] 39)=W7 at*
  generalize w6.heap.size=Zb at*
  clear hB7 HB6 HC6 HD6 HY6
  have hJJ:((str tx).toList==(str tx).toList)=true:=by simp
  go_wp2_with fail
  refine(HAW.out _ HB7.out).mono ?_
  rintro e w8 ⟨rfl,hB8⟩
  have HB8:=hid (up HB7.out hB8)
  have HC8:=hid (HC7.out.below hB8)
  have HD8:=hid (HD7.out.below hB8)
  have HY8:=hid (HY7.out.below hB8)
  have HZ8:=hid (HZ.out.below hB8)
  clear hB8 HB7 HC7 HD7 HY7 HZ
  obtain⟨y0,y1,y2,y3,y4,y5,y6,y7⟩:=Blk.q8 HY8.out
  have ly:=HY8.out.lt
  obtain⟨z0,z1,z2,z3,z4,z5,z6,z7⟩:=Blk.q8 HZ8.out
  have lz:=HZ8.out.lt
  dsimp only
  go_wp2_with fail
  refine(q_SameCmd rc _ _ w8 HD8.out HC8.out).mono ?_
  rintro e w9 ⟨rfl,hB9⟩
  have HB9:=hid (up HB8.out hB9)
  clear hB9 HB8 HC8 HD8 HY8 HZ8 y0 y1 y2 y3 y4 y5 y6 y7 z0 z1 z2 z3 z4 z5 z6 z7 ly lz
  dsimp only
  go_wp2_with fail
  refine(HSU.out _).mono ?_
  rintro e wa ⟨rfl,hBa⟩
  have HBa:=hid (up HB9.out hBa)
  dsimp only
  go_wp2_with fail
  refine(HSQ.out _).mono ?_
  rintro e wb ⟨rfl,rfl⟩
  dsimp only
  go_wp2_with fail
  go_ret
  exact⟨rfl,HBa.out⟩
end Go.Proofs.YtclgllmipcbagaaGreatDoor
