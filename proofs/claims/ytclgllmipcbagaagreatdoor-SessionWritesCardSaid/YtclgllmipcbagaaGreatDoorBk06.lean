/-
  Parts of the proof: XP30 XP35
-/
import Derived.RangeFuncNested
import Derived.RangeFuncBound
import Derived.RangeFuncCalls
import Derived.RangeFuncLeaves
import Derived.RangeFuncBox
import Derived.Shelf.Abstract
import Derived.Shelf.RegionOpen
import Derived.OwnWalkIn
import Derived.TacticsInMore
import Derived.LoopNIn
import Derived.LoopIn
import Derived.Maps.AppendAt
import Derived.Test.YtclgllmipcbagaaGreatDoorBk02
import Derived.Deep.DeepAppendWide
import Derived.Deep.DeepCutAuto
import Derived.Deep.RegionHeld3
import Derived.Deep.AppendLies
import Derived.Test.YtclgllmipcbagaaGreatDoorBk05
import Derived.Test.YtclgllmipcbagaaGreatDoorBk04
namespace Go.Proofs.YtclgllmipcbagaaGreatDoor
set_option linter.unusedVariables false
set_option linter.unusedSimpArgs false
set_option maxRecDepth 100000
set_option maxHeartbeats 16000000
open Go.RowKit Go.Shelf
attribute [local go_sem] Oper.semAt_some
def sglTo (es:List E)(i:Nat):List (Nat×Int×Int):=(List.range i).map fun j=>(j,(endsOf es)[j]?.getD (0,0))
theorem sglTo_succ (es:List E)(i:Nat):sglTo es (i+1)=sglTo es i++[(i,(endsOf es)[i]?.getD (0,0))]:=by simp[sglTo,List.range_succ]
theorem sglTo_length (es:List E)(i:Nat):(sglTo es i).length=i:=by simp[sglTo]
def cntE (es:List E)(k:Nat):Nat:=(endsOf (es.take k)).length
theorem cntE_succ (es:List E)(k:Nat)(hk:k<es.length):cntE es (k+1)=cntE es k+(es[k]?.getD default).m.toNat:=by
 unfold cntE;rw[take_step es k hk,endsOf_append,List.length_append];simp[endsOf]
theorem cntE_end (es:List E):cntE es es.length=(endsOf es).length:=by unfold cntE;rw[List.take_length]
theorem cntE_le (es:List E)(k:Nat):cntE es k≤(endsOf es).length:=by
 have h:endsOf es=endsOf (es.take k)++endsOf (es.drop k):=by rw[← endsOf_append,List.take_append_drop]
 unfold cntE;rw[h,List.length_append];omega
theorem ends_at (es:List E)(k j:Nat)(hk:k<es.length)(hj:j<(es[k]?.getD default).m.toNat):cntE es k+j<(endsOf es).length∧(endsOf es)[cntE es k+j]?.getD (0,0)=((es[k]?.getD default).a,(es[k]?.getD default).b):=by
 have h1:=cntE_succ es k hk;have h2:=cntE_le es (k+1);have h:endsOf es=endsOf (es.take (k+1))++endsOf (es.drop (k+1)):=by rw[← endsOf_append,List.take_append_drop]
 have h3:endsOf (es.take (k+1))=endsOf (es.take k)++List.replicate (es[k]?.getD default).m.toNat ((es[k]?.getD default).a,(es[k]?.getD default).b):=by
  rw[take_step es k hk,endsOf_append];simp[endsOf]
 refine⟨by omega,?_⟩;rw[h,List.getElem?_append_left (by show cntE es k+j<cntE es (k+1);omega),h3,List.getElem?_append_right (by show cntE es k≤cntE es k+j;omega)];rw[show cntE es k+j-(endsOf (es.take k)).length=j by show cntE es k+j-cntE es k=j;omega];simp[hj]
def KpE (n₀:Nat)(W W':World):Prop:=Below n₀ W W'∧∀b cs,Blk W b cs 150→Blk W' b cs 150
theorem KpE.trans {n₀:Nat}{A B C:World}(h:KpE n₀ A B)(h':KpE n₀ B C):KpE n₀ A C:=⟨h.1.trans h'.1,fun b cs hb=>h'.2 b cs (h.2 b cs hb)⟩
theorem singles1_in (F:Fence)(n:Nat)(hF:F.fn 385)(hro:F.round=none)(hn:1≤n)(l Bg n₀ cap:Nat)(a:Option Addr)(es:List E)(hm:∀k,k<es.length→0≤(es[k]?.getD default).m∧(es[k]?.getD default).m≤1000000)
 (hlen:es.length≤1000000) (htot:(endsOf es).length≤1000000) (J Jx:List (Nat×Int×Int)→World→Prop) (W:World) (hJ:AbidesFrom W.heap.size J)
 (hY:∀pre x W1,J pre W1→pre.length<(endsOf es).length→YieldAt F (n-1) Tryz.prog l #[.int .i64 (x.1:Int),.agg #[.int .i64 x.2.1,.int .i64 x.2.2]] W1 fun e W'=>
   (e= .returned (.bool true)∧J (pre++[x]) W'∧KpE n₀ W1 W')∨(e= .returned (.bool false)∧Jx (pre++[x]) W'))
 (hBg:W.cell? ⟨Bg,1,none⟩=some (.slice a es.length cap)) (hc:∀k,k<es.length→∃b off,a=some ⟨b,off,none⟩∧b<n₀∧W.cell? ⟨b,off+k*3,none⟩=some (.int .i64 (es[k]?.getD default).a)∧
   W.cell? ⟨b,off+k*3+1,none⟩=some (.int .i64 (es[k]?.getD default).b)∧W.cell? ⟨b,off+k*3+2,none⟩=some (.int .i64 (es[k]?.getD default).m)) (hn0:n₀≤W.heap.size) (h0:J [] W):
 CallsIn F n Tryz.prog 385 #[.func (.yield l) #[] #[],.pointer (some ⟨Bg,0,none⟩)] W fun e W'=>(∃ v,e= .returned v)∧
  ((∃ ys,ys=sglTo es (endsOf es).length∧J ys W')∨(∃ pre,True∧Jx pre W')):=by
 refine callsIn_of_wp Tryz.func385 rfl hF ?_ hro;simp only[Tryz.ntmps385,List.size_toArray,List.length_cons,List.length_nil,Nat.reduceAdd,Nat.reduceSub,Array.replicate_succ,Array.replicate_zero,List.push_toArray,List.append_toArray,List.nil_append,List.cons_append];have HM:=hid hm;have HC:=hid hc;have HJ:=hid hJ;have HY:=hid hY;have HT:=hid htot;clear hm hc hJ hY htot;gi_wp2
 gi_loopw [3,9] (fun e i wr=>∃k c:Nat,k≤es.length∧Hid (c=cntE es k)∧e= .int .i64 c∧i= .int .i64 k∧Hid (J (sglTo es c) wr)∧Hid (Below n₀ W wr)∧W.heap.size≤wr.heap.size) (fun _ i _=>es.length-(intOf i).toNat)
 case atStart=>exact⟨0,0,Nat.zero_le _,rfl,rfl,rfl,h0,Below.refl _ _,Nat.le_refl _⟩
 case round=>
  obtain⟨k,c,hk,HCk,rfl,rfl,HJs,HB,hsz⟩:=hrel;obtain⟨W2,rfl⟩:∃W:World,W=wr:=⟨_,rfl⟩;by_cases hlt:k<es.length
  ·obtain⟨b,off,rfl,hb,c1,c2,c3⟩:=HC.out k hlt
   have d1:=(HB.out.cell (p:=⟨b,off+k*3,none⟩) hb).trans c1;have d2:=(HB.out.cell (p:=⟨b,off+k*3+1,none⟩) hb).trans c2;have d3:=(HB.out.cell (p:=⟨b,off+k*3+2,none⟩) hb).trans c3;have HE:=hid (fun j hj=>ends_at es k j hlt hj);have HS:=hid (cntE_succ es k hlt);have hmk:=HM.out k hlt;have hk1:(k:Int)<(es.length:Int):=by omega
   have hk0:(0:Int)≤(k:Int):=by omega
   clear c1 c2 c3;generalize es[k]?.getD default=x at*
   obtain⟨xa,xb,xm⟩:=x;dsimp only at d1 d2 d3 hmk HE HS;obtain⟨m,rfl⟩:=Int.eq_ofNat_of_zero_le hmk.1;rw[Int.toNat_natCast]at HE HS;have HW2:Hid (Blk (W2.alloc (.cells #[.int .i64 xa,.int .i64 xb,.int .i64 m] 150)) W2.heap.size #[.int .i64 xa,.int .i64 xb,.int .i64 m] 150):=Blk.new _ _ _;have HJ3:Hid (J (sglTo es c) (W2.alloc (.cells #[.int .i64 xa,.int .i64 xb,.int .i64 m] 150))):=HJ.out _ _ _ none HJs.out (World.grownBy_alloc _ _ none) (fun r e=>by cases e);have HB3:Hid (Below n₀ W (W2.alloc (.cells #[.int .i64 xa,.int .i64 xb,.int .i64 m] 150))):=HB.out.alloc (by omega) _;gi_wp2
   gi_loopw [3,15] (fun e jv wr=>∃j i:Nat,j≤m∧i=c+j∧e= .int .i64 i∧jv= .int .i64 j∧Hid (J (sglTo es i) wr)∧Hid (Below n₀ W wr)∧Hid (Blk wr W2.heap.size #[.int .i64 xa,.int .i64 xb,.int .i64 m] 150)∧W.heap.size≤wr.heap.size) (fun _ jv _=>m-(intOf jv).toNat)
   case atStart=>exact⟨0,c,Nat.zero_le _,rfl,rfl,rfl,HJ3,HB3,HW2,by simp;omega⟩
   case round=>
    clear HJ3 HB3 HW2 HJs HB d1 d2 d3;obtain⟨j,i,hj,hi,rfl,rfl,HJi,HBi,HWi,hszi⟩:=hrel;have HI:=hid hi;clear hi;obtain⟨W3,rfl⟩:∃W:World,W=wr:=⟨_,rfl⟩;by_cases hjm:j<m
    ·obtain⟨q1,q2⟩:=HE.out j hjm
     rw[← HCk.out,←HI.out]at q1 q2;have e0:=HWi.out.cell 0;have e1:=HWi.out.cell 1;simp only[xG,xH,xI]at e0 e1;have hjm1:(j:Int)<(m:Int):=by omega
     have wi:IntKind.i64.wrap ((i:Int)+1)=(i:Int)+1:=IntWalk.i64_in _ (by have:=HT.out;omega);obtain⟨fn,tmps,assign,body,hy,hR⟩:=HY.out _ (i,xa,xb) W3 HJi.out (by rw[sglTo_length];exact q1);dsimp only at hy;have HN:Hid (sglTo es (i+1)=sglTo es i++[(i,xa,xb)]):=by show _=_;rw[sglTo_succ,q2]
     have HR:=hid hR;clear hR q1 q2;gi_wp2
     refine HR.out.mono ?_;rintro e W4 (⟨rfl,hJ4,hk4⟩|⟨rfl,hJx4⟩)
     ·have HJ4:=hid hJ4
      have HK4:=hid hk4;clear hJ4 hk4;gi_wp2
      go_roundw
      case rel=>
       refine⟨j+1,i+1,by omega,by have:=HI.out;omega,by go_num,by go_num,?_,HBi.out.trans HK4.out.1,HK4.out.2 _ _ HWi.out,Nat.le_trans hszi HK4.out.1.size⟩;rw[HN.out];exact HJ4
      case measure=>simp[intOf];omega
     ·gi_wp2
      refine bodyPost_ret (results_none rfl _ _ _) rfl ?_;exact⟨⟨_,rfl⟩,.inr ⟨_,trivial,hJx4⟩⟩
    ·obtain rfl:j=m:=by omega
     have hjm1:¬(j:Int)<(j:Int):=by omega
     gi_wp2
     go_roundw;case rel=>exact⟨k+1,i,by omega,by show i=_;rw[HS.out,←HCk.out];exact HI.out,rfl,by go_num,HJi,HBi,hszi⟩
     case measure=>simp[intOf];omega
  ·obtain rfl:k=es.length:=by omega
   have hk1:¬(es.length:Int)<(es.length:Int):=by omega
   gi_wp2
   go_end0;refine⟨⟨_,rfl⟩,.inl ?_⟩;rw[← cntE_end,←HCk.out];exact HJs.out
theorem singles_in (F:Fence)(n:Nat)(hF:F.fn 362)(hro:F.round=none)(g0 ev:Value)(w:World):
 CallsIn F n Tryz.prog 362 #[.agg #[g0,ev]] w fun e w'=>e= .returned (.func (.func 385) #[] #[.pointer (some ⟨w.heap.size,0,none⟩)])∧w'=w.alloc (.cells #[g0,ev] 28):=by
 refine callsIn_of_wp Tryz.func362 rfl hF ?_ hro;simp only[Tryz.ntmps362,List.size_toArray,List.length_cons,List.length_nil,Nat.reduceAdd,Nat.reduceSub,Array.replicate_succ,Array.replicate_zero,List.push_toArray,List.append_toArray,List.nil_append,List.cons_append];gi_wp2
 go_ret;exact⟨rfl,rfl⟩
theorem singles_stops (F:Fence)(n:Nat)(hF:F.fn 385)(hro:F.round=none)(hn:1≤n)(Bg n₀ cap:Nat)(a:Option Addr)(es:List E)(hm:∀k,k<es.length→0≤(es[k]?.getD default).m∧(es[k]?.getD default).m≤1000000)
 (hlen:es.length≤1000000) (htot:(endsOf es).length≤1000000) (w:World) (hBg:w.cell? ⟨Bg,1,none⟩=some (.slice a es.length cap)) (hBl:Bg<w.heap.size) (hc:∀k,k<es.length→∃b off,a=some ⟨b,off,none⟩∧b<n₀∧w.cell? ⟨b,off+k*3,none⟩=some (.int .i64 (es[k]?.getD default).a)∧
   w.cell? ⟨b,off+k*3+1,none⟩=some (.int .i64 (es[k]?.getD default).b)∧w.cell? ⟨b,off+k*3+2,none⟩=some (.int .i64 (es[k]?.getD default).m)) (hn0:n₀≤w.heap.size):
 SeqStopsK F n Tryz.prog 385 #[.pointer (some ⟨Bg,0,none⟩)] (fun x:Nat×Int×Int=> #[Value.int .i64 (x.1:Int),.agg #[.int .i64 x.2.1,.int .i64 x.2.2]]) (KpE n₀) (fun ys=>ys=sglTo es (endsOf es).length) (fun _=>True) (endsOf es).length w:=fun l J Jx W hW hJ _ hY h0=>by
 have hs:=hW.size;exact singles1_in F n hF hro hn l Bg n₀ cap a es hm hlen htot J Jx W hJ hY ((hW.cell (p:=⟨Bg,1,none⟩) hBl).trans hBg) (fun k hk=>by
  obtain⟨b,off,h1,h2,c1,c2,c3⟩:=hc k hk;exact⟨b,off,h1,h2,(hW.cell (p:=⟨b,off+k*3,none⟩) (by dsimp only;omega)).trans c1,(hW.cell (p:=⟨b,off+k*3+1,none⟩) (by dsimp only;omega)).trans c2,(hW.cell (p:=⟨b,off+k*3+2,none⟩) (by dsimp only;omega)).trans c3⟩) (by omega) h0
end Go.Proofs.YtclgllmipcbagaaGreatDoor
namespace Go.Proofs.YtclgllmipcbagaaGreatDoor
set_option linter.unusedVariables false
set_option linter.unusedSimpArgs false
set_option maxRecDepth 100000
set_option maxHeartbeats 16000000
open Go.RowKit Go.Shelf
attribute [local go_sem] Oper.semAt_some
theorem Tryz.und22:Tryz.prog.underlying 251=some (.slice 291):=by kernel_rfl
theorem Tryz.info22:(Tryz.prog.info? 291).map (fun i=>(i.zero,i.size,i.bytes))=some (some (.agg #[.int .i64 0,.int .i64 0]),2,16):=by kernel_rfl
theorem blk_own {β:Type}(B:Nat)(t:TypeId)(cs:β→Array Value):Own (fun s W=>Blk W B (cs s) t):=fun s X Y row hs hg hrow=>by
 refine hs.grown hg (fun e=> ?_);obtain⟨o,ho,hc⟩:=hrow B e;have h1:X.heap[B]? =some (.cells (cs s) t (0,0)):=hs;rw[h1]at ho;cases ho;cases hc
theorem kpE_b {n₀:Nat}(w0:World)(hn:n₀≤w0.heap.size):∀(W:World) (l:Nat) (o o':Obj),w0.heap.size≤l→W.heap[l]? =some o→o.isCells=false→o.isWalk=false→KpE n₀ W (W.putObj l o'):=by
 intro W l o o' hl ho hc hw;refine⟨belowK_b (w:=w0) hn W l o o' hl ho hc hw,fun b cs hb=> ?_⟩;refine hb.grown (grownBy_putObj' W l o') (fun e=> ?_);obtain rfl:l=b:=Option.some.inj e;have h1:W.heap[l]? =some (.cells cs 150 (0,0)):=hb;rw[h1]at ho;cases ho;cases hc
theorem pairs_snoc (pre:List (Nat×Int×Int))(x:Nat×Int×Int):pairCells ((pre++[x]).map (·.2))=pairCells (pre.map (·.2))++[.int .i64 x.2.1,.int .i64 x.2.2]:=by simp[pairCells]
theorem sgl_map (es:List E):(sglTo es (endsOf es).length).map (·.2)=endsOf es:=by
 unfold sglTo;rw[List.map_map];apply List.ext_getElem
 ·simp
 ·intro i h1 h2
  simp at h1;simp[h1]
theorem news22 (W:World)(x y:Int)(e:TypeId)(j:Nat)(u:Value)(h:[Value.int .i64 x,Value.int .i64 y][j]? =some u):(W.alloc (.cells #[.int .i64 x,.int .i64 y] e)).cell? ((⟨W.heap.size,0,none⟩:Addr).add j)=some u:=by
 match j,h with
 |0,h=>simp at h;subst h;simp[Addr.add]
 |1,h=>simp at h;subst h;simp[Addr.add]
 |j+2,h=>simp at h
def RetEnds (T:TypeId)(w:World)(ps:List (Int×Int))(e:Ending)(w':World):Prop:=
 ∃v,e= .returned (.tuple #[v,.int .i64 0])∧w'.ownsRow w.heap.size T 2 v ps.length (pairCells ps)∧Below w.heap.size w w'
theorem p_Ends (g:G)(gv:Value)(w:World)(hg:GrR w gv g)(hk:Gok g):
 Calls Tryz.prog 324 #[gv] w (RetEnds 291 w (endsOf g.es)):=by
 have hg':=hg;obtain⟨ev,rfl,a,cap,rfl,hcap,hcm,hlen,hc⟩:=hg';obtain⟨i0,hi,hz0,hz1,hz2⟩:=info_parts Tryz.info22;refine(callsIn_wide (n:=5)).1 ?_;have hW:Below w.heap.size w (w.alloc (.cells #[.int .i64 g.n,.slice a g.es.length cap] 28)):=by go_grown
 have hck:=hid (p_Check g _ _ (hg.below hW));have hbk:=hid hk;rw[show checkErr g=0 from hk]at hck;have hro:Fence.wide.round=none:=rfl;refine callsIn_of_wp_marks Tryz.func324 rfl trivial ?_ hro;simp only[Tryz.ntmps324,List.size_toArray,List.length_cons,List.length_nil,Nat.reduceAdd,Nat.reduceSub,Array.replicate_succ,Array.replicate_zero,List.push_toArray,List.append_toArray,List.nil_append,List.cons_append]
 gi_wp2_with (first
  |(refine ⟨trivial,?_⟩;gi_at_call 103;refine(callsIn_wide.2 hck.out).mono ?_;rintro e w1 ⟨rfl,hB1⟩;obtain⟨r1,r2⟩:=bcell hB1;have hs1:=hB1.size;(simp only[World.size_alloc]at hs1);have u1:w.heap.size<w1.heap.size:=(by omega))
  |(refine ⟨trivial,?_⟩;gi_at_call 362;refine(singles_in Fence.wide 4 trivial hro _ _ _).mono ?_;rintro e w2 ⟨rfl,rfl⟩))
 have hBw1:Below w.heap.size w w1:=up hW hB1;have hBk:=(Blk.new w #[.int .i64 g.n,.slice a g.es.length cap] 28).below hB1;have bO:=Boxed.new w1 251 (.slice none 0 0);have bG:=Blk.new (w1.alloc (.cells #[.slice none 0 0] 251)) #[.int .i64 g.n,.slice a g.es.length cap] 28;rw[World.size_alloc]at bG;have hB2:Below w.heap.size w ((w1.alloc (.cells #[.slice none 0 0] 251)).alloc (.cells #[.int .i64 g.n,.slice a g.es.length cap] 28)):=(hBw1.alloc hBw1.size _).alloc (by simp;omega) _;obtain⟨W0,hW0⟩:∃W:World,W=((w1.alloc (.cells #[.slice none 0 0] 251)).alloc (.cells #[.int .i64 g.n,.slice a g.es.length cap] 28)):=⟨_,rfl⟩
 have hs0:W0.heap.size=w1.heap.size+2:=by rw[hW0];simp
 rw[← hW0]at bG hB2⊢;have bO2:Boxed W0 w1.heap.size 251 (.slice none 0 0):=by rw[hW0];exact bO.alloc _
 clear hW0;have hm:∀k,k<g.es.length→0≤(g.es[k]?.getD default).m∧(g.es[k]?.getD default).m≤1000000:=fun k h=>by
  have:=hbk.out.mem (x:=g.es[k]?.getD default) (by rw[List.getElem?_eq_getElem h];exact List.getElem_mem h);omega
 have hgl:=hbk.out.len;have htot:(endsOf g.es).length≤7200:=by
  have:=endsOf_len g.es 50 (fun y hy=>by have:=hbk.out.mem hy;omega);omega
 have hcE:∀k,k<g.es.length→∃b off,a=some ⟨b,off,none⟩∧b<w.heap.size∧W0.cell? ⟨b,off+k*3,none⟩=some (.int .i64 (g.es[k]?.getD default).a)∧
  W0.cell? ⟨b,off+k*3+1,none⟩=some (.int .i64 (g.es[k]?.getD default).b)∧W0.cell? ⟨b,off+k*3+2,none⟩=some (.int .i64 (g.es[k]?.getD default).m):=fun k h=>by
  obtain⟨b,off,h1,h2,h3⟩:=hc.edge (by omega);obtain⟨c1,c2,c3⟩:=h3 k h;exact⟨b,off,h1,h2,(hB2.cell (p:=⟨b,off+k*3,none⟩) h2).trans c1,(hB2.cell (p:=⟨b,off+k*3+1,none⟩) h2).trans c2,(hB2.cell (p:=⟨b,off+k*3+2,none⟩) h2).trans c3⟩
 have bG1:=bG.cell 1;simp only[xG,xH,xI]at bG1
 refine wpIn_rangeFunc_ownH hro (by omega) (gf:=385) (lb:= #[.pointer (some ⟨w1.heap.size+1,0,none⟩)]) rfl trivial (enters_of Tryz.func385 (by kernel_rfl) rfl)
  (singles_stops Fence.wide 4 trivial hro (by omega) (w1.heap.size+1) w.heap.size cap a g.es hm (by omega) (by omega) W0 bG1 (by omega) hcE hB2.size) KpE.trans (kpE_b W0 hB2.size) (Below.refl _ _) (fun _=>rfl)
  (fun pre W=>(∃ v,Boxed W w1.heap.size 251 v∧W.ownsRow w.heap.size 291 2 v pre.length (pairCells (pre.map (·.2)))∧True)∧Below w.heap.size w W)
  (fun _ _ _=>False)
  (OwnFrom.and (Own.from (holdsRow_own w.heap.size w1.heap.size 251 291 2 (fun pre:List (Nat×Int×Int)=>pre.length) (fun pre=>pairCells (pre.map (·.2))) (fun _ _=>True)) _) (ownFrom_below (Nat.le_refl _) hB2.size))
  (fun _ _ _ _ _ hs _ _=>hs)
  ⟨⟨_,bO2,World.ownsRow_nil _ _ _ _,trivial⟩,hB2⟩
  (fun x a' W=>∃Bx,Bx≠w1.heap.size∧Blk W Bx #[.int .i64 x.2.1,.int .i64 x.2.2] 215∧a'={tmps:= #[.agg #[.int .i64 g.n,.slice a g.es.length cap],.pointer (some ⟨w.heap.size,0,none⟩),.slice none 0 0,.int .i64 0,.int .i64 0,.pointer (some ⟨w1.heap.size,0,none⟩),undef,.pointer (some ⟨Bx,0,none⟩),
    .agg #[.int .i64 g.n,.slice a g.es.length cap],.int .i64 0,.int .i64 0,.bool false,undef,.agg #[.int .i64 g.n,.slice a g.es.length cap],.func (.func 385) #[] #[.pointer (some ⟨w1.heap.size+1,0,none⟩)],.int .i64 (x.1:Int),.agg #[.int .i64 x.2.1,.int .i64 x.2.2],undef,undef,undef,undef,undef,undef,undef,undef,undef],defers:=[]})
  (fun x a'=>by
    rintro s W W' row ⟨Bx,h1,h2,h3⟩ hg hr;exact⟨Bx,h1,(blk_own (β:=Unit) Bx 215 (fun _=> #[.int .i64 x.2.1,.int .i64 x.2.2])) () W W' row h2 hg (fun r e=>(hr r e).2),h3⟩) ?assign ?body ?done ?stop
 case assign=>
  rintro l pre x W K ⟨⟨v,hv,hrow,_⟩,hB⟩ hK;have hlt:=hv.lt;gi_wp2
  exact hK _ _ ((KeepsOthers.alloc _ _).from _) ⟨(Below.refl _ W).alloc hB.size _,fun b cs hb=>hb.alloc _⟩ ⟨⟨v,hv.alloc _,hrow.alloc _,trivial⟩,hB.alloc hB.size _⟩ ⟨W.heap.size,by omega,Blk.new _ _ _,rfl⟩
 case body=>
  rintro l pre x a' W hl ⟨r,hr⟩ ⟨⟨v,hv,hrow,_⟩,hB⟩ ⟨Bx,hBx,bX,rfl⟩ hlt;have hc:=hv.cell;have e0:=bX.cell 0;have e1:=bX.cell 1;simp only[xG,xH,xI]at e0 e1;obtain⟨xi,xa,xb⟩:=x;dsimp only at e0 e1;have hle:w.heap.size≤w1.heap.size:=hBw1.size;gi_wp2_with (gi_at_builtin;refine wpListIn_append_own _ rfl _ _ 251 rfl w.heap.size 291 i0 (.agg #[.int .i64 0,.int .i64 0]) 2 16 Tryz.und22 hi hz0 hz1 hz2 rfl (by decide) _ _ _ rfl (hrow.alloc _) ⟨W.heap.size,0,none⟩ 1 1 [.int .i64 xa,.int .i64 xb] rfl rfl (news22 _ _ _ _) (by simp[Value.oneCell']) (by unfold maxLen;omega) (by omega) (by have:=hB.size;simp;omega) ?_;intro v' w2 hown' hgrow _;obtain⟨g',cap',rfl⟩:=ownsRow_succ hown';obtain⟨hv1,hv2,hr2,hk2,hb2⟩:=hv.appended (by decide) hrow hB.size hle hown' hgrow;have hc1:=hv1.cell;have hf1:=hv1.frozen)
  refine⟨hk2.from _,⟨hb2,fun b cs hb=> ?_⟩,⟨_,hv2,?_⟩,hB.trans hb2⟩
  ·refine((hb.alloc _).grown hgrow (fun e=>owns_blk hb hrow (by decide) b e rfl)).other (fun e=> ?_) _ _
   subst e;have h1:W.heap[w1.heap.size]? =some (.cells cs 150 (0,0)):=hb;have h2:W.heap[w1.heap.size]? =some (.cells #[v] 251 (0,0)):=hv;rw[h1]at h2;injection h2 with h2
   injection h2 with _ h2
   exact absurd h2 (by decide)
  ·rw[pairs_snoc,List.length_append]
   exact hr2
 case done=>
  rintro D ys W hD rfl ⟨⟨v,hv,hrow,_⟩,hB⟩ hK;have hc:=hv.cell;rw[sgl_map,sglTo_length]at hrow;have hs2:=hB2.size;gi_wp2
  refine⟨by simp,.inl ⟨_,_,rfl,run_takeDeferred hK,?_⟩⟩;exact⟨_,results_tmp2 rfl _ _ _,v,rfl,ownsRow_putObj hrow _ hK rfl,hB.trans (belowK_b (w:=w) (Nat.le_refl _) W D _ _ (by omega) hK rfl rfl)⟩
 case stop=>
  rintro D c pre W _ _ h _;exact h.elim
end Go.Proofs.YtclgllmipcbagaaGreatDoor
namespace Go.Proofs.YtclgllmipcbagaaGreatDoor
set_option linter.unusedVariables false
set_option linter.unusedSimpArgs false
set_option maxRecDepth 100000
set_option maxHeartbeats 16000000
open Go.RowKit
theorem c_CloneI (ds:List Int)(dv:Value)(w:World)(hd:IntsR w dv ds)(h0:0<ds.length):
 Calls Tryz.prog 323 #[dv] w fun e w'=>∃b c,e= .returned (.slice (some ⟨b,0,none⟩) ds.length c)∧
  w'.ownsRow w.heap.size 3 1 (.slice (some ⟨b,0,none⟩) ds.length c) ds.length (ds.map (Value.int .i64))∧Below w.heap.size w w':=by
 obtain⟨a,cap,rfl,hcap,hcm,hlen,hc⟩:=hd;obtain⟨b,off,rfl,hb,hcs⟩:=hc.int h0;have HC:=hid hc;have qT:∀(w:World) (a:Option Addr) (n c n' c':Nat),(binOp .eql 29 (.slice a n c) (.slice none n' c')).run Tryz.prog w= .ok (.bool a.isNone) w:=fun w a n c n' c'=>Lib.run_eql_slice_nil w 29 3 a n c n' c' Tryz.underInts;clear hcs hc;go_enter Tryz.func323,Tryz.ntmps323;go_wp2_with (at_builtin;go_loud (refine wpList_clone w rfl _ _ 29 rfl 3 Tryz.underInts Tryz.infoInt w.heap.size rfl b off cap ds HC.out hlen rfl rfl ?_);intro v' w1 hown hB1 _);obtain⟨b1,c1,rfl,_⟩:=owns_some hown h0;go_wp2;go_ret;exact⟨b1,c1,rfl,hown,hB1⟩
structure Pl (W0:World)(w:World)(b bd cd bv bf N q:Nat)(rv:Value)(kr:Nat)(bs:Nat→Nat)(R:Nat→Nat→Int)(V d:Nat→Int):Prop where
 blk:Blk w b #[.slice (some ⟨bd,0,none⟩) N cd,.int .i64 q,rv,.slice (some ⟨bv,0,none⟩) N N,.slice (some ⟨bf,0,none⟩) N N,.int .i64 0,.bool false,.bool false,.bool false,.bool false,.bool false,.bool false,.bool false,.bool false,.bool false,.bool false,.bool false,.bool false] 268
 left:w.ownsRow W0.heap.size 3 1 (.slice (some ⟨bd,0,none⟩) N cd) N ((vecOf N d).map (Value.int .i64))
 vals:w.ownsRow W0.heap.size 3 1 (.slice (some ⟨bv,0,none⟩) N N) N ((vecOf N V).map (Value.int .i64))
 fired:w.ownsRow W0.heap.size 3 1 (.slice (some ⟨bf,0,none⟩) N N) N ((vecOf N fun _=>0).map (Value.int .i64))
 rows:OwnM 29 3 w W0.heap.size rv N kr bs R
 hb:W0.heap.size≤b
 below:Below W0.heap.size W0 w
 d1:bd≠bv
 d2:bd≠bf
 d3:bv≠bf
 r1:∀i,i<kr→bs i≠bd
 r2:∀i,i<kr→bs i≠bv
 r3:∀i,i<kr→bs i≠bf
section
variable {W0 w w' : World} {b bd cd bv bf N q : Nat} {rv : Value} {kr : Nat} {bs : Nat → Nat} {R : Nat → Nat → Int} {V d : Nat → Int}
theorem Pl.mono (h:Pl W0 w b bd cd bv bf N q rv kr bs R V d)(hB:Below w.heap.size w w'):Pl W0 w' b bd cd bv bf N q rv kr bs R V d:=
 ⟨h.blk.below hB,owns_below h.left hB,owns_below h.vals hB,owns_below h.fired hB,h.rows.below hB,h.hb,h.below.trans (hB.mono h.below.size),h.d1,h.d2,h.d3,h.r1,h.r2,h.r3⟩
theorem Pl.cells (h:Pl W0 w b bd cd bv bf N q rv kr bs R V d):w.cell? ⟨b,0,none⟩=some (.slice (some ⟨bd,0,none⟩) N cd)∧w.cell? ⟨b,2,none⟩=some rv∧w.cell? ⟨b,3,none⟩=some (.slice (some ⟨bv,0,none⟩) N N):=by
 refine⟨?_,?_,?_⟩<;>(rw [h.blk.cell];simp)
theorem Pl.setV (h:Pl W0 w b bd cd bv bf N q rv kr bs R V d)(hrv:rv.ownBlock≠some bv)(u:Nat)(x:Int):Pl W0 (w.setCell ⟨bv,u,none⟩ (.int .i64 x)) b bd cd bv bf N q rv kr bs R (fun i=>if i=u then x else V i) d:=by
 have n1:bv≠b:=owns_blk h.blk h.vals (by decide) _ rfl;have l1:=(owns_lt h.vals).1;refine⟨h.blk.other n1.symm u _,owns_other h.left h.d1 u _,?_,owns_other h.fired h.d3.symm u _,h.rows.kept (grown_set w bv u _) (.inr hrv) (fun i hi e=>h.r2 i hi (Option.some.inj e).symm),h.hb,h.below.setCell (by exact l1) _,h.d1,h.d2,h.d3,h.r1,h.r2,h.r3⟩;have:=owns_set h.vals u x;rwa[vecOf_set]at this
theorem Pl.setR {go co:Nat}(h:Pl W0 w b bd cd bv bf N q (.slice (some ⟨go,0,none⟩) kr co) kr bs R V d)(i j:Nat)(hi:i<kr)(x:Int):Pl W0 (w.setCell ⟨bs i,j,none⟩ (.int .i64 x)) b bd cd bv bf N q (.slice (some ⟨go,0,none⟩) kr co) kr bs (fun i' j'=>if i'=i∧j'=j then x else R i' j') V d:=by
 have n1:bs i≠b:=owns_blk h.blk (h.rows.row i hi) (by decide) _ rfl;have l1:=(owns_lt (h.rows.row i hi)).1;exact⟨h.blk.other n1.symm j _,owns_other h.left (h.r1 i hi).symm j _,owns_other h.vals (h.r2 i hi).symm j _,owns_other h.fired (h.r3 i hi).symm j _,h.rows.set (by decide) i j hi x,h.hb,h.below.setCell (by exact l1) _,h.d1,h.d2,h.d3,h.r1,h.r2,h.r3⟩
theorem Pl.congr {R':Nat→Nat→Int}{V':Nat→Int}(h:Pl W0 w b bd cd bv bf N q rv kr bs R V d)(hR:∀i j,i<kr→j<N→R i j=R' i j)(hV:∀u,u<N→V u=V' u):Pl W0 w b bd cd bv bf N q rv kr bs R' V' d:=by
 refine⟨h.blk,h.left,?_,h.fired,h.rows.congr R' hR,h.hb,h.below,h.d1,h.d2,h.d3,h.r1,h.r2,h.r3⟩;rw[← vecOf_congr N V V' hV];exact h.vals
end
theorem own_ne {w:World}{base base':Nat}{rv:Value}{k g n cap:Nat}{xs ys:List Value}(h1:w.ownsRow base 29 1 rv k xs)(h2:w.ownsRow base' 3 1 (.slice (some ⟨g,0,none⟩) n cap) n ys):rv.ownBlock≠some g:=by
 intro e;rcases h1.2 with ⟨rfl,_⟩|⟨g',cap',cur,rfl,_,hg,_⟩
 ·cases e
 ·obtain rfl:g'=g:=Option.some.inj e
  rcases h2.2 with ⟨h0,_⟩|⟨g2,cap2,cur2,h0,_,hg2,_⟩
  ·cases h0
  ·injection h0 with h0
   injection h0 with h0
   injection h0 with h0
   subst h0;rw[hg]at hg2;injection hg2 with hg2
   injection hg2 with _ h3
   exact absurd h3 (by decide)
section
variable {W0 w w' : World} {b bd cd bv bf N q : Nat} {rv : Value} {kr : Nat} {bs : Nat → Nat} {d : Nat → Int}
theorem Pl.newRow (h:Pl W0 w b bd cd bv bf N q rv kr bs (fun _ _=>0) (fun _=>0) d)(hN:N≤1000){e':TypeId}{cs:Array Value}
 (k2:Below w.heap.size w ((w.drew.alloc (.cells (zer N) 3)).alloc (.cells cs e'))) {a5:Option Addr} {c5:Nat}
 (hown:w'.ownsRow W0.heap.size 29 1 (.slice a5 (kr+1) c5) (kr+1) (((List.range kr).map fun i=>Value.slice (some ⟨bs i,0,none⟩) N N)++[.slice (some ⟨w.heap.size,0,none⟩) N N])) (hgr:((w.drew.alloc (.cells (zer N) 3)).alloc (.cells cs e')).grownBy w' rv.ownBlock):
 Pl W0 (w'.setCell ⟨b,2,none⟩ (.slice a5 (kr+1) c5)) b bd cd bv bf N q (.slice a5 (kr+1) c5) (kr+1) (fun i=>if i<kr then bs i else w.heap.size) (fun _ _=>0) (fun _=>0) d:=by
 have hs:=h.below.size;have nb:rv.ownBlock≠some b:=fun e=>owns_blk h.blk h.rows.outer (by decide) _ e rfl;have n1:bd≠b:=owns_blk h.blk h.left (by decide) _ rfl;have n2:bv≠b:=owns_blk h.blk h.vals (by decide) _ rfl;have n3:bf≠b:=owns_blk h.blk h.fired (by decide) _ rfl;have l1:=(owns_lt h.left).2;have l2:=(owns_lt h.vals).2;have l3:=(owns_lt h.fired).2;have lb:=h.blk.lt;have hM1:=h.rows.below k2;have hlt:=fun i hi=>(h.rows.lt i hi).2;have hbk:∀i,i<kr→bs i≠w.heap.size:=fun i hi=>by have:=hlt i hi;omega
 have hz0:((w.drew.alloc (.cells (zer N) 3)).alloc (.cells cs e')).ownsRow W0.heap.size 3 1 (.slice (some ⟨w.heap.size,0,none⟩) N N) N ((vecOf N fun _=>0).map (Value.int .i64)):=
  (ownZ rfl (by exact hs) hN).alloc _
 have hzn:rv.ownBlock≠some w.heap.size:=fun e=>by have:=(h.rows.outer.lt _ e).2;omega
 have hM2:=hM1.snoc (w':=w') (b:=w.heap.size) (v':= .slice a5 (kr+1) c5) (hz0.kept hgr (.inr (fun e=>hzn e.symm))) hbk hown (fun i hi=>(hM1.row i hi).kept hgr (.inr fun e=>hM1.blk (by decide) i hi e.symm));have hB5:Below W0.heap.size W0 w':=(h.below.trans (k2.mono hs)).grown hgr (by have:=k2.size;omega) (fun j hj=>(h.rows.outer.lt j hj).1);have no:(Value.slice a5 (kr+1) c5).ownBlock≠some b:=fun e=>owns_blk ((h.blk.below k2).grown hgr nb) hown (by decide) _ e rfl
 refine⟨((h.blk.below k2).grown hgr nb).set 2 _,owns_other ((owns_below h.left k2).kept hgr (.inr (fun e=>own_ne h.rows.outer h.left e.symm))) n1 _ _,owns_other ((owns_below h.vals k2).kept hgr (.inr (fun e=>own_ne h.rows.outer h.vals e.symm))) n2 _ _,
  owns_other ((owns_below h.fired k2).kept hgr (.inr (fun e=>own_ne h.rows.outer h.fired e.symm))) n3 _ _,hM2.kept (grown_set w' b 2 _) (.inr no) (fun i hi e=> ?_),h.hb,hB5.setCell (by exact h.hb) _,h.d1,h.d2,h.d3,fun i hi=> ?_,fun i hi=> ?_,fun i hi=> ?_⟩
 ·have e1:=Option.some.inj e
  by_cases hi':i<kr
  ·rw[if_pos hi']at e1
   exact owns_blk h.blk (h.rows.row i hi') (by decide) _ rfl e1.symm
  ·rw[if_neg hi']at e1;omega
 all_goals
  by_cases hi':i<kr
  ·rw[if_pos hi']
   first|exact h.r1 i hi'|exact h.r2 i hi'|exact h.r3 i hi'
  ·rw[if_neg hi'];omega
end
theorem pl_box {wb W:World}{N b bd cd bv bf q:Nat}{d:Nat→Int}(hO:wb.ownsRow W.heap.size 3 1 (.slice (some ⟨bd,0,none⟩) N cd) N ((vecOf N d).map (Value.int .i64)))
 (hV:wb.ownsRow W.heap.size 3 1 (.slice (some ⟨bv,0,none⟩) N N) N ((vecOf N fun _=>0).map (Value.int .i64))) (hF:wb.ownsRow W.heap.size 3 1 (.slice (some ⟨bf,0,none⟩) N N) N ((vecOf N fun _=>0).map (Value.int .i64)))
 (d1:bd≠bv) (d2:bd≠bf) (d3:bv≠bf) (hx:b=wb.heap.size) (hB:Below W.heap.size W wb):
 ∃b' bd' cd' bv' bf',(Value.pointer (some ⟨b,0,none⟩))= .pointer (some ⟨b',0,none⟩)∧
  Pl W (wb.alloc (.cells #[.slice (some ⟨bd,0,none⟩) N cd,.int .i64 q,.slice none 0 0,.slice (some ⟨bv,0,none⟩) N N,.slice (some ⟨bf,0,none⟩) N N,.int .i64 0,.bool false,.bool false,.bool false,.bool false,.bool false,.bool false,.bool false,.bool false,.bool false,.bool false,.bool false,.bool false] 268)) b' bd' cd' bv' bf' N q (.slice none 0 0) 0 (fun _=>0) (fun _ _=>0) (fun _=>0) d:=by
 subst hx;exact⟨wb.heap.size,bd,cd,bv,bf,rfl,⟨Blk.new _ _ _,hO.alloc _,hV.alloc _,hF.alloc _,OwnM.zero _ _ _ _ _ _ _,hB.size,hB.alloc hB.size _,d1,d2,d3,fun i hi=>by omega,fun i hi=>by omega,fun i hi=>by omega⟩⟩
def RetPile (w:World)(g:G)(N q:Nat)(d:Nat→Int)(e:Ending)(w':World):Prop:=
 ∃(f:PFr) (wt:Nat→Bool),e= .returned (.tuple #[.pointer (some ⟨f.b,0,none⟩),.int .i64 0])∧f.N=N∧f.q=q∧f.g=g∧Below w.heap.size w f.W0∧PiI f w' d (fun _=>0) 0 wt∧WtOk f d wt
def mk1 (p:Int×Int):E:=⟨p.1,p.2,1⟩
def g1Of (g:G):G:=⟨g.n,(endsOf g.es).map mk1⟩
theorem sumE_rep (f:E→Int)(x:E):∀n:Nat,sumE f (List.replicate n x)=n*f x
 |0=>by simp[sumE]
 |n+1=>by
  rw[List.replicate_succ];unfold sumE;rw[sumE_rep f x n,Int.natCast_add,Int.add_mul];omega
theorem sumE_units (f:E→Int)(hf:∀a b m,f ⟨a,b,m⟩=m*f ⟨a,b,1⟩):∀es:List E,(∀ x∈es,0≤x.m)→sumE f ((endsOf es).map mk1)=sumE f es
 |[],_=>rfl
 |x::es,h=>by
  have ih:=sumE_units f hf es fun y hy=>h y (by simp[hy]);have h1:=h x (by simp);obtain⟨xa,xb,xm⟩:=x;have e:endsOf (⟨xa,xb,xm⟩::es)=List.replicate xm.toNat (xa,xb)++endsOf es:=by simp[endsOf]
  rw[e,List.map_append,sumE_append,ih,List.map_replicate,sumE_rep];conv=>rhs;unfold sumE
  rw[hf xa xb xm];show(xm.toNat:Int)*f ⟨xa,xb,1⟩+sumE f es=_;dsimp only at h1;rw[Int.toNat_of_nonneg h1];try omega
theorem rowE_lin (v u:Nat)(a b m:Int):rowE v u ⟨a,b,m⟩=m*rowE v u ⟨a,b,1⟩:=by
 unfold rowE;dsimp only;repeat' split
 all_goals simp
theorem valE_lin (u:Nat)(a b m:Int):valE u ⟨a,b,m⟩=m*valE u ⟨a,b,1⟩:=by
 unfold valE;dsimp only;repeat' split
 all_goals(first|(simp;done)|omega)
theorem g1_row {g:G}(h:Gok g)(v u:Nat):rowTo (g1Of g) v (endsOf g.es).length u=rowsF g v u:=by
 rw[← rowTo_end h v u];unfold rowTo g1Of;dsimp only;rw[List.take_of_length_le (by simp),List.take_length];exact sumE_units _ (rowE_lin v u) g.es fun x hx=>by have:=h.mem hx;omega
theorem g1_val {g:G}(h:Gok g)(u:Nat):valTo (g1Of g) (endsOf g.es).length u=valence g u:=by
 rw[← valTo_end h u];unfold valTo g1Of;dsimp only;rw[List.take_of_length_le (by simp),List.take_length];exact sumE_units _ (valE_lin u) g.es fun x hx=>by have:=h.mem hx;omega
theorem g1_at (g:G)(j:Nat)(hj:j<(endsOf g.es).length):(g1Of g).es[j]?.getD default=⟨((endsOf g.es)[j]?.getD (0,0)).1,((endsOf g.es)[j]?.getD (0,0)).2,1⟩:=by
 unfold g1Of;simp[hj,mk1]
theorem ends_mem {g:G}(h:Gok g)(j:Nat)(hj:j<(endsOf g.es).length):∃A B:Nat,(endsOf g.es)[j]?.getD (0,0)=((A:Int),(B:Int))∧(A:Int)<g.n∧(B:Int)<g.n:=by
 have hm:(endsOf g.es)[j]?.getD (0,0)∈endsOf g.es:=by rw[List.getElem?_eq_getElem hj];exact List.getElem_mem hj
 generalize (endsOf g.es)[j]?.getD (0,0)=p at*
 unfold endsOf at hm;rw[List.mem_flatMap]at hm;obtain⟨x,hx,hp⟩:=hm;obtain rfl:=List.eq_of_mem_replicate hp;have:=h.mem hx;obtain⟨A,hA⟩:=Int.eq_ofNat_of_zero_le (show 0≤x.a by omega);obtain⟨B,hB⟩:=Int.eq_ofNat_of_zero_le (show 0≤x.b by omega);exact⟨A,B,by rw[hA,hB],by omega,by omega⟩
theorem g1_bd (g:G)(v j u:Nat):(0≤rowTo (g1Of g) v j u∧rowTo (g1Of g) v j u≤j)∧0≤valTo (g1Of g) j u∧valTo (g1Of g) j u≤2*j:=by
 have hx:∀x∈(g1Of g).es.take j,x.m=1:=fun x hx=>by
  have:=List.mem_of_mem_take hx;unfold g1Of at this;simp only[List.mem_map]at this;obtain⟨p,_,rfl⟩:=this;rfl
 have hl:((g1Of g).es.take j).length≤j:=by rw[List.length_take];omega
 have h1:=sumE_bd (rowE v u) 1 ((g1Of g).es.take j) fun x h=>by
  have:=hx x h;unfold rowE;repeat' split
  all_goals omega
 have h2:=sumE_bd (valE u) 2 ((g1Of g).es.take j) fun x h=>by
  have:=hx x h;unfold valE;repeat' split
  all_goals omega
 unfold rowTo valTo;omega
theorem p_pileOf (g:G)(gv:Value)(N:Nat)(hN1:(N:Int)≤g.n)(hN2:g.n≤(N:Int))(q:Nat)(hq:q<N)(d:Nat→Int)(dv:Value)(w:World)(hg:GrR w gv g)(hk:Gok g)(hd:IntsR w dv (vecOf N d)):
 Calls Tryz.prog 260 #[gv,.int .i64 q,dv] w (RetPile w g N q d):=by
 have hg':=hg;obtain⟨ev0,rfl,_⟩:=hg';obtain⟨hn1,hn2⟩:=hk.n;have HLD:=hid (vecOf_len N d);have hW:Below w.heap.size w (w.alloc (.cells #[.int .i64 g.n,ev0] 28)):=by go_grown
 go_enter Tryz.func260,Tryz.ntmps260;go_upto_region 1 with fail;obtain⟨W1,hW1⟩:∃W:World,W=w.alloc (.cells #[.int .i64 g.n,ev0] 28):=⟨_,rfl⟩;rw[← hW1];have f1:W1.cell? ⟨w.heap.size,0,none⟩=some (.int .i64 g.n):=by rw[hW1];simp
 have f2:W1.cell? ⟨w.heap.size,1,none⟩=some ev0:=by rw[hW1];simp
 have hBw:Below w.heap.size w W1:=by rw[hW1];exact hW
 have hga:w.heap.size+1≤W1.heap.size:=by rw[hW1];simp
 have HGA:=hid hga;clear hW1 hW;have hmk:=run_zer (P:=Tryz.prog) 29 3 Tryz.underInts Tryz.infoInt g.n N hN1 hN2 (by omega)
 have hCl:Hid (∀ W',Below W1.heap.size W1 W'→Calls Tryz.prog 323 #[dv] W' fun e w'=>∃b c,e= .returned (.slice (some ⟨b,0,none⟩) N c)∧
  w'.ownsRow W'.heap.size 3 1 (.slice (some ⟨b,0,none⟩) N c) N ((vecOf N d).map (Value.int .i64))∧Below W'.heap.size W' w'):=fun W' h=>by
  have:=c_CloneI (vecOf N d) dv W' (hd.below (hBw.trans (h.mono hBw.size))) (by rw[HLD.out];omega);rw[HLD.out]at this;exact this
 go_cut [8] (fun s8 W2=>∃b bd cd bv bf,s8= .pointer (some ⟨b,0,none⟩)∧Pl W1 W2 b bd cd bv bf N q (.slice none 0 0) 0 (fun _=>0) (fun _ _=>0) (fun _=>0) d)
 case first=>
  have hN1000:N≤1000:=by omega
  have h0:Below W1.heap.size W1 W1.drew:=below_dN (Below.refl _ _) 1;have hRd:Hid (∀ W',Below W1.heap.size W1 W'→W'.cell? ⟨w.heap.size,0,none⟩=some (.int .i64 g.n)):=fun W' h=>(h.cell (p:=⟨w.heap.size,0,none⟩) (by have:=HGA.out;dsimp only;omega)).trans f1;clear hga
  go_region_held3 (fun w'=>w'.cell? ⟨w.heap.size,0,none⟩=some (.int .i64 g.n))
   ((refine hRd.out _ ?_;(repeat (first|with_reducible assumption|with_reducible exact Below.refl _ _|with_reducible refine balloc ?_ _|with_reducible refine Below.drew ?_))))
   ((go_at_call 323;refine(hCl.out _ (by (repeat (first|with_reducible assumption|with_reducible exact Below.refl _ _|with_reducible refine balloc ?_ _|with_reducible refine Below.drew ?_)))).mono ?_;rintro e wA ⟨bl,cl,rfl,hoL,hBL⟩;obtain⟨r1,r2⟩:=bcell hBL;have hzA:=hBL.size;(try simp only[World.size_alloc,World.size_drew]at hzA);have hX:=(by (repeat (first|with_reducible assumption|with_reducible exact Below.refl _ _|with_reducible refine balloc ?_ _|with_reducible refine Below.drew ?_)):Below W1.heap.size W1 _).trans (hBL.mono (by go_size))))
  all_goals
   go_wp2_with fail
   go_meet
   have hbl:=owns_lt hoL
   (try simp only[World.size_alloc,World.size_drew]at hbl)
   refine pl_box (wb:=_) (N:=N) ?_ ?_ ?_ ?_ ?_ ?_ ?_ ?_
   ·(repeat (first|(with_reducible refine World.ownsRow.alloc ?_ _)|(with_reducible refine World.ownsRow.drew ?_)|((with_reducible refine owns_base hoL ?_);(first|(with_reducible rfl)|omega|(simp only[World.size_alloc,World.size_drew];done)|(simp only[World.size_alloc,World.size_drew];omega)))))
   ·(repeat (first|((with_reducible refine ownZ ?_ ?_ hN1000)<;>(first|(with_reducible rfl)|omega|(simp only[World.size_alloc];done)|(simp only[World.size_alloc];omega)))|(with_reducible refine World.ownsRow.alloc ?_ _)|(with_reducible refine World.ownsRow.drew ?_)|(with_reducible refine owns_below ?_ hBL)))
   ·(repeat (first|((with_reducible refine ownZ ?_ ?_ hN1000)<;>(first|(with_reducible rfl)|omega|(simp only[World.size_alloc];done)|(simp only[World.size_alloc];omega)))|(with_reducible refine World.ownsRow.alloc ?_ _)|(with_reducible refine World.ownsRow.drew ?_)|(with_reducible refine owns_below ?_ hBL)))
   ·omega
   ·omega
   ·omega
   ·(first|(with_reducible rfl)|omega|(simp only[World.size_alloc];done)|(simp only[World.size_alloc,World.size_drew];omega))
   ·(repeat (first|(with_reducible assumption)|(with_reducible exact Below.refl _ _)|(with_reducible refine balloc ?_ _)|(with_reducible refine Below.drew ?_)))
 case rest=>
  obtain⟨b,bd,cd,bv,bf,rfl,hP⟩:=hcut;obtain⟨W2,rfl⟩:∃W:World,W=wc:=⟨_,rfl⟩;obtain⟨i1,hj1,hy0,hy1,hy2⟩:=info_parts Tryz.infoRow;have hgn:=hid (fun (wr:World) (h:Below W1.heap.size W1 wr)=>(h.cell (p:=⟨w.heap.size,0,none⟩) (by have:=HGA.out;dsimp only;omega)).trans f1);have HG1:=hid (hg.below hBw);have HBW:=hid hBw;have HK:=hid hk;have HP0:=hid hP;have hg2:=hgn.out W2 hP.below;have hb2:=hP.below.size;clear hP hCl hd hg hBw hk hga;go_wp2;go_loopw [29] (fun i wr=>∃(k:Nat) (rv:Value) (bs:Nat→Nat),k≤N∧i= .int .i64 k∧Hid (Pl W1 wr b bd cd bv bf N q rv k bs (fun _ _=>0) (fun _=>0) d)) (fun i _=>N-(intOf i).toNat)
  case atStart=>exact⟨0,_,_,Nat.zero_le _,rfl,HP0⟩
  case round=>
   clear HP0 hg2 hb2;obtain⟨k,rv,bs,hkN,rfl,HP⟩:=hrel;obtain⟨W3,rfl⟩:∃W:World,W=wr:=⟨_,rfl⟩;obtain⟨ar,cr,rfl⟩:=owns_slice HP.out.rows.outer;have hg3:=hgn.out W3 HP.out.below;have hb3:=HP.out.below.size;obtain⟨_,p2,_⟩:=HP.out.cells;have l0:=HP.out.blk.lt;have lg:w.heap.size<W3.heap.size:=by have:=HGA.out;omega
   by_cases hlt:k<N
   ·have hlt':(k:Int)<g.n:=by omega
    go_wp2;let S:World→Prop:=fun w'=>w'.cell? ⟨b,2,none⟩=some (.slice ar k cr)∧w'.cell? ⟨w.heap.size,0,none⟩=some (.int .i64 g.n)
    (refine wp_region_text 12 [0,1,2,3,4,5,6,7,8,9,10,11] S (by kernel_rfl) (by kernel_rfl) (by intro _ _ d _ _ h;cases d<;>exact h) ?hS ?_;rotate_left;simp only[xA,xB,xC,xD,xE,xF]);case hS=>exact⟨p2,hg3⟩
    (repeat ((refine' wpSeq_take rfl _ (by rfl) ?_ ?_;rotate_left;focus(intro w' hS;(try dsimp only at hS);obtain⟨s1,s2⟩:=hS;go_simp;(first|done|with_reducible rfl));(try go_frame));(try go_frame)));have k1:Below W3.heap.size W3 (W3.drew.alloc (.cells (zer N) 3)):=(Below.refl _ _).drew.alloc (Nat.le_refl _) _;have k2:Below W3.heap.size W3 ((W3.drew.alloc (.cells (zer N) 3)).alloc (.cells #[.slice (some ⟨W3.heap.size,0,none⟩) N N] 29)):=k1.alloc (by simp) _;have hS1:S (W3.drew.alloc (.cells (zer N) 3)):=⟨(k1.cell (p:=⟨b,2,none⟩) l0).trans p2,(k1.cell (p:=⟨w.heap.size,0,none⟩) lg).trans hg3⟩;have hS2:S ((W3.drew.alloc (.cells (zer N) 3)).alloc (.cells #[.slice (some ⟨W3.heap.size,0,none⟩) N N] 29)):=⟨(k2.cell (p:=⟨b,2,none⟩) l0).trans p2,(k2.cell (p:=⟨w.heap.size,0,none⟩) lg).trans hg3⟩
    refine wpSeq_call rfl (by rfl) (fun K hK=> ?_);go_simp;refine hK _ _ hS1 ?_;clear hK K;refine wpSeq_call rfl (by rfl) (fun K hK=> ?_);go_simp;refine hK _ _ hS2 ?_;clear hK K;refine wpSeq_call rfl (by rfl) (fun K hK=> ?_);refine wp_append_own_wide _ (.tmp 35) (.tmp 39) 244 rfl W1.heap.size 29 i1 (.slice none 0 0) 1 24 Tryz.underMat hj1 hy0 hy1 hy2 rfl (by decide) (.slice ar k cr) k _ rfl (owns_below HP.out.rows.outer k2) ⟨W3.heap.size+1,0,none⟩ 1 1 [.slice (some ⟨W3.heap.size,0,none⟩) N N] rfl rfl (fun j u hj=>by have h:=cell_one_new (W3.drew.alloc (.cells (zer N) 3)) (.slice (some ⟨W3.heap.size,0,none⟩) N N) 29 j u hj;rw[show (W3.drew.alloc (.cells (zer N) 3)).heap.size=W3.heap.size+1 by simp]at h;exact h) (by simp[Value.oneCell']) (by unfold maxLen;omega) (by omega) (by go_size) ?_
    intro v' W5 hown hgr _;obtain⟨a5,c5,rfl⟩:=owns_slice hown;have HNR:=hid (HP.out.newRow (by omega) k2 hown hgr);have hne:(Value.slice ar k cr).ownBlock≠some b:=fun e=>owns_blk HP.out.blk HP.out.rows.outer (by decide) _ e rfl;have hb5:Blk W5 b _ _:=(HP.out.blk.below k2).grown hgr hne;have e5:=hb5.cell 2;simp only[xG,xH,xI]at e5;have hB5:Below W1.heap.size W1 W5:=(HP.out.below.trans (k2.mono hb3)).grown hgr (by go_size) (fun j hj=>((owns_below HP.out.rows.outer k2).lt j hj).1);have hS5:S W5:=⟨e5,hgn.out W5 hB5⟩;refine hK _ _ hS5 ?_;clear hK K hS1 hS2 k1 k2 hown hgr;have x5:=fun j=>hb5.frozen j
    have l5:=hb5.lt;(repeat ((refine' wpSeq_take rfl _ (by rfl) ?_ ?_;rotate_left;focus(intro w' hS;(try dsimp only at hS);obtain⟨s1,s2⟩:=hS;go_simp;(first|done|with_reducible rfl));(try go_frame));(try go_frame)));refine wpSeq_nil ?_;clear S hS5 hb5 HP p2 hg3;go_wp2;go_roundw;case rel=>exact⟨k+1,_,_,by omega,by go_num,HNR⟩
    case measure=>simp[intOf];omega
   ·have e:N=k:=by omega
    subst e;have hlt':¬(N:Int)<g.n:=by omega
    obtain⟨go,co,hbv,_,_⟩:=owns_some HP.out.rows.outer (by omega);injection hbv with e1 e2 e3
    subst e1 e3;clear e2;have hE:=hid (p_Ends g _ W3 (HG1.out.below HP.out.below) HK.out);have hg4:W3.cell? ⟨w.heap.size,1,none⟩=some ev0:=(HP.out.below.cell (p:=⟨w.heap.size,1,none⟩) (by have:=HGA.out;dsimp only;omega)).trans f2;go_wp2_with fail;refine hE.out.mono ?_;rintro e W4 ⟨v,rfl,ho,hB4⟩;obtain⟨ae,ce,rfl⟩:=owns_slice ho;have HP4:=hid (HP.out.mono hB4);have HE4:=hid ho;have HP5:Hid (Pl W1 W4 b bd cd bv bf N q (.slice (some ⟨go,0,none⟩) N cr) N bs (fun a u=>rowTo (g1Of g) a 0 u) (fun u=>valTo (g1Of g) 0 u) d):=HP4.out.congr (fun i j _ _=>(rowTo_zero _ _ _).symm) (fun u _=>(valTo_zero _ _).symm)
    have hen:(endsOf g.es).length≤7200:=by
     have:=endsOf_len g.es 50 (fun y hy=>by have:=HK.out.mem hy;omega);have:=HK.out.len;omega
    have HEN:=hid hen;clear HP ho hB4 HP4 p2 hg3 hg4 l0 lg hb3 hen;go_simp;go_wp2;go_loopw [54] (fun i wr=>∃j:Nat,j≤(endsOf g.es).length∧i= .int .i64 j∧Hid (Pl W1 wr b bd cd bv bf N q (.slice (some ⟨go,0,none⟩) N cr) N bs (fun a u=>rowTo (g1Of g) a j u) (fun u=>valTo (g1Of g) j u) d)∧Hid (wr.ownsRow W3.heap.size 291 2 (.slice ae (endsOf g.es).length ce) (endsOf g.es).length (pairCells (endsOf g.es)))) (fun i _=>(endsOf g.es).length-(intOf i).toNat);case atStart=>exact⟨0,Nat.zero_le _,rfl,HP5,HE4⟩
    case round=>
     clear HP5 HE4;obtain⟨j,hjn,rfl,HP,HE⟩:=hrel;obtain⟨W5,rfl⟩:∃W:World,W=wr:=⟨_,rfl⟩;by_cases hlt:j<(endsOf g.es).length
     ·obtain⟨be,ce',hbv,_,hbe⟩:=owns_some HE.out (by omega)
      injection hbv with e1 e2 e3
      subst e1 e3;clear e2;obtain⟨A,B,hAB,hA,hB⟩:=ends_mem HK.out j hlt;have hc1:=HE.out.cellAt (j*2) (by omega);have hc2:=HE.out.cellAt (j*2+1) (by omega);obtain⟨g1,g2⟩:=pairCells_get (endsOf g.es) j hlt;rw[g1,hAB]at hc1;rw[g2,hAB]at hc2;have hat:=g1_at g j hlt;rw[hAB]at hat;have hlg:j<(g1Of g).es.length:=by unfold g1Of;simpa using hlt
      have hsR:=hid (fun a u=>rowTo_step (g1Of g) a j u hlg);have hsV:=hid (fun u=>valTo_step (g1Of g) j u hlg);rw[hat]at hsR hsV;dsimp only at hc1 hc2 hsR hsV;have HBD:=hid (fun v u=>g1_bd g v j u);have hjj:=HEN.out;have hlt1:(j:Int)<((endsOf g.es).length:Int):=by omega
      have hj0:(0:Int)≤(j:Int):=by omega
      have hAN:A<N:=by omega
      have hBN:B<N:=by omega
      have k1:Below W5.heap.size W5 (W5.alloc (.cells #[.int .i64 A,.int .i64 B] 291)):=(Below.refl _ _).alloc (Nat.le_refl _) _;have HX:=hid (Blk.new W5 #[.int .i64 A,.int .i64 B] 291);have HP6:=hid (HP.out.mono k1);have HE6:=hid (owns_below HE.out k1);clear g1 g2 hAB hat hlg k1;go_upto_region 12 with fail;obtain⟨W6,hW6⟩:∃W:World,W=W5.alloc (.cells #[.int .i64 A,.int .i64 B] 291):=⟨_,rfl⟩;rw[← hW6];rw[← hW6]at HX HP6 HE6;clear hW6 HP HE;have x0:=HX.out.cell 0;have x1:=HX.out.cell 1;simp only[xG,xH,xI]at x0 x1;let S:World→Prop:=fun w'=>w'.cell? ⟨W5.heap.size,0,none⟩=some (.int .i64 A)∧w'.cell? ⟨W5.heap.size,1,none⟩=some (.int .i64 B)
      (refine wp_region_text 5 [0,1,2,3,4] S (by kernel_rfl) (by kernel_rfl) (by intro _ _ d _ _ h;cases d<;>exact h) ?hS ?_;rotate_left;simp only[xA,xB,xC,xD,xE,xF]);case hS=>exact⟨x0,x1⟩
      (repeat ((refine' wpSeq_take rfl _ (by rfl) ?_ ?_;rotate_left;focus(intro w' hS;(try dsimp only at hS);obtain⟨s1,s2⟩:=hS;go_simp;(first|done|with_reducible rfl));(try go_frame));(try go_frame)));refine wpSeq_nil ?_;clear S x0 x1 HX;have HP7:=hid (HP6.out.mono (Below.drew (Below.refl _ _)));have HE7:=hid (owns_below HE6.out (Below.drew (Below.refl _ _)));clear HP6 HE6;by_cases hab:A=B
      ·subst hab
       have hab1:((A:Int)!=(A:Int))=false:=by simp
       have HP8:Hid (Pl W1 W6.drew b bd cd bv bf N q (.slice (some ⟨go,0,none⟩) N cr) N bs (fun a u=>rowTo (g1Of g) a (j+1) u) (fun u=>valTo (g1Of g) (j+1) u) d):=HP7.out.congr (fun i u _ _=>by rw[hsR.out];unfold rowE;simp) (fun u _=>by rw[hsV.out];unfold valE;simp);clear HP7;go_wp2;go_roundw;case rel=>exact⟨j+1,by omega,by go_num,HP8,HE7⟩
       case measure=>simp[intOf];omega
      ·have hab1:((A:Int)!=(B:Int))=true:=by simp;omega
       have hA1:(A:Int)<(N:Int):=by omega
       have hA0:(0:Int)≤(A:Int):=by omega
       have hB1:(B:Int)<(N:Int):=by omega
       have hB0:(0:Int)≤(B:Int):=by omega
       go_upto_region 14 with fail;obtain⟨Wa,hWa⟩:∃W:World,W=W6.drew:=⟨_,rfl⟩;rw[← hWa];rw[← hWa]at HP7 HE7;clear hWa;obtain⟨_,p27,_⟩:=HP7.out.cells;have ra7:=HP7.out.rows.at A hAN;have rb7:=HP7.out.rows.cell A B hAN hBN;have rf7:=HP7.out.rows.frozen A B hAN;have rl7:=(HP7.out.rows.lt A hAN).2;have gl7:=(owns_lt HP7.out.rows.outer).2;have bl7:=HP7.out.blk.lt;have ww7:IntKind.i64.wrap (rowTo (g1Of g) A j B+1)=rowTo (g1Of g) A j B+1:=IntWalk.i64_in _ (by have:=(HBD.out A B).1;omega);have HP8:=hid (HP7.out.setR A B hAN (rowTo (g1Of g) A j B+1));have HE8:=hid (owns_other HE7.out (owns_differ HE7.out (HP7.out.rows.row A hAN) (by decide)) B (.int .i64 (rowTo (g1Of g) A j B+1)))
       generalize hbs7:bs A=br7 at ra7 rb7 rf7 rl7;go_upto_region 15 with fail;rw[← hbs7];obtain⟨Wb,hW7⟩:∃W:World,W=Wa.setCell ⟨bs A,B,none⟩ (.int .i64 (rowTo (g1Of g) A j B+1)):=⟨_,rfl⟩;rw[← hW7];rw[← hW7]at HP8 HE8;clear hW7 hbs7 p27 ra7 rb7 rf7 rl7 gl7 bl7 ww7 HP7 HE7;obtain⟨_,p28,_⟩:=HP8.out.cells;have ra8:=HP8.out.rows.at B hBN;have rb8:=HP8.out.rows.cell B A hBN hAN;rw[if_neg (fun h=>hab h.1.symm)]at rb8;have rf8:=HP8.out.rows.frozen B A hBN;have rl8:=(HP8.out.rows.lt B hBN).2;have gl8:=(owns_lt HP8.out.rows.outer).2;have bl8:=HP8.out.blk.lt;have ww8:IntKind.i64.wrap (rowTo (g1Of g) B j A+1)=rowTo (g1Of g) B j A+1:=IntWalk.i64_in _ (by have:=(HBD.out B A).1;omega)
       have HP9:=hid (HP8.out.setR B A hBN (rowTo (g1Of g) B j A+1));have HE9:=hid (owns_other HE8.out (owns_differ HE8.out (HP8.out.rows.row B hBN) (by decide)) A (.int .i64 (rowTo (g1Of g) B j A+1)));generalize hbs8:bs B=br8 at ra8 rb8 rf8 rl8;go_upto_region 16 with fail;rw[← hbs8];obtain⟨Wc,hW8⟩:∃W:World,W=Wb.setCell ⟨bs B,A,none⟩ (.int .i64 (rowTo (g1Of g) B j A+1)):=⟨_,rfl⟩;rw[← hW8];rw[← hW8]at HP9 HE9;clear hW8 hbs8 p28 ra8 rb8 rf8 rl8 gl8 bl8 ww8 HP8 HE8;obtain⟨_,_,p39⟩:=HP9.out.cells;have rb9:=owns_int HP9.out.vals A hAN;rw[vecOf_get _ _ _ hAN]at rb9;have rf9:=HP9.out.vals.frozenAt A;have rl9:=(owns_lt HP9.out.vals).2
       have bl9:=HP9.out.blk.lt;have ww9:IntKind.i64.wrap (valTo (g1Of g) j A+1)=valTo (g1Of g) j A+1:=IntWalk.i64_in _ (by have:=(HBD.out 0 A).2;omega);have HP10:=hid (HP9.out.setV (own_ne HP9.out.rows.outer HP9.out.vals) A (valTo (g1Of g) j A+1));have HE10:=hid (owns_other HE9.out (owns_differ HE9.out HP9.out.vals (by decide)) A (.int .i64 (valTo (g1Of g) j A+1)));go_upto_region 17 with fail;obtain⟨Wd,hW9⟩:∃W:World,W=Wc.setCell ⟨bv,A,none⟩ (.int .i64 (valTo (g1Of g) j A+1)):=⟨_,rfl⟩;rw[← hW9];rw[← hW9]at HP10 HE10;clear hW9 p39 rb9 rf9 rl9 bl9 ww9 HP9 HE9;obtain⟨_,_,p310⟩:=HP10.out.cells;have rb10:=owns_int HP10.out.vals B hBN
       rw[vecOf_get _ _ _ hBN]at rb10;rw[if_neg (fun h=>hab h.symm)]at rb10;have rf10:=HP10.out.vals.frozenAt B;have rl10:=(owns_lt HP10.out.vals).2;have bl10:=HP10.out.blk.lt;have ww10:IntKind.i64.wrap (valTo (g1Of g) j B+1)=valTo (g1Of g) j B+1:=IntWalk.i64_in _ (by have:=(HBD.out 0 B).2;omega);have HP11:=hid (HP10.out.setV (own_ne HP10.out.rows.outer HP10.out.vals) B (valTo (g1Of g) j B+1));have HE11:=hid (owns_other HE10.out (owns_differ HE10.out HP10.out.vals (by decide)) B (.int .i64 (valTo (g1Of g) j B+1)));go_upto_region 18 with fail;obtain⟨We,hW10⟩:∃W:World,W=Wd.setCell ⟨bv,B,none⟩ (.int .i64 (valTo (g1Of g) j B+1)):=⟨_,rfl⟩
       rw[← hW10];rw[← hW10]at HP11 HE11;clear hW10 p310 rb10 rf10 rl10 bl10 ww10 HP10 HE10;have HP12:Hid (Pl W1 We b bd cd bv bf N q (.slice (some ⟨go,0,none⟩) N cr) N bs (fun a u=>rowTo (g1Of g) a (j+1) u) (fun u=>valTo (g1Of g) (j+1) u) d):=by
        refine HP11.out.congr (fun i u _ _=> ?_) (fun u _=> ?_)
        ·rw[hsR.out]
         unfold rowE;have hab':¬(A:Int)=(B:Int):=by omega
         rw[if_neg hab'];dsimp only;by_cases h1:i=A
         ·subst h1
          by_cases h2:u=B
          ·subst h2;simp;omega
          ·have h3:¬(B:Int)=(u:Int):=by omega
           have h4:¬i=B:=hab;simp[h2,h3,h4]
         ·have h3:¬(A:Int)=(i:Int):=by omega
          by_cases h4:i=B
          ·subst h4
           by_cases h5:u=A
           ·subst h5;simp[h3]
           ·have h6:¬(A:Int)=(u:Int):=by omega
            simp[h1,h3,h5,h6]
          ·have h5:¬(B:Int)=(i:Int):=by omega
           simp[h1,h3,h4,h5]
        ·rw[hsV.out]
         unfold valE;have hab':¬(A:Int)=(B:Int):=by omega
         rw[if_neg hab'];dsimp only;by_cases h1:u=B
         ·subst h1
          have h2:¬u=A:=fun h=>hab h.symm;simp[hab']
         ·have h2:¬(B:Int)=(u:Int):=by omega
          by_cases h3:u=A
          ·subst h3;simp[h1,h2]
          ·have h4:¬(A:Int)=(u:Int):=by omega
           simp[h1,h2,h3,h4]
       clear HP11 hsR hsV HBD;go_wp2;go_roundw;case rel=>exact⟨j+1,by omega,by go_num,HP12,HE11⟩
       case measure=>simp[intOf];omega
     ·have hlt1:¬(j:Int)<((endsOf g.es).length:Int):=by omega
      have HPE:Hid (Pl W1 W5 b bd cd bv bf N q (.slice (some ⟨go,0,none⟩) N cr) N bs (rowsF g) (fun u=>valence g u) d):=by
       have e:j=(endsOf g.es).length:=by omega
       have h:=HP.out;rw[e]at h;exact h.congr (fun i u _ _=>g1_row HK.out i u) (fun u _=>g1_val HK.out u)
      clear HP HE
      have HPI:Hid (PiI ⟨b,bd,cd,bv,bf,go,cr,bs,N,q,g,W1⟩ W5 d (fun _=>0) 0 (fun _=>false)):=
       ⟨HPE.out.blk,HPE.out.left,HPE.out.vals,HPE.out.fired,HPE.out.rows,HPE.out.hb,HPE.out.below,HPE.out.d1,HPE.out.d2,HPE.out.d3,HPE.out.r1,HPE.out.r2,HPE.out.r3,HK.out,by show g.n=(N:Int);omega⟩
      obtain⟨p0,_,_⟩:=HPE.out.cells;have l0:=HPE.out.blk.lt;clear HPE;have HFE:Hid (∃ f:PFr,f=⟨b,bd,cd,bv,bf,go,cr,bs,N,q,g,W1⟩):=⟨_,rfl⟩;obtain⟨f,hf⟩:=HFE.out;clear HFE;rw[← hf]at HPI;have HFb:Hid (f.b=b):=by show _=_;rw[hf]
      have HFN:Hid (f.N=N):=by show _=_;rw[hf]
      have HFq:Hid (f.q=q):=by show _=_;rw[hf]
      have HFg:Hid (f.g=g):=by show _=_;rw[hf]
      have HFW:Hid (f.W0=W1):=by show _=_;rw[hf]
      clear hf;go_wp2;go_loopw [113] (fun i wr=>∃v:Nat,v≤N∧i= .int .i64 v∧Hid (PiI f wr d (fun _=>0) 0 (fun i=>if i<v then isUnst f.g f.q d i else false))) (fun i _=>N-(intOf i).toNat);case atStart=>exact⟨0,Nat.zero_le _,rfl,HPI.out.congr (fun _ _=>rfl) (fun _ _=>rfl) (fun u _=>by simp)⟩
      case round=>
       clear HPI p0 l0;obtain⟨v,hvN,rfl,HPv⟩:=hrel;obtain⟨W8,rfl⟩:∃W:World,W=wr:=⟨_,rfl⟩;by_cases hv:v<N
       ·have hv1:(v:Int)<(N:Int):=by omega
        have hwt:=hid (p_wait f _ _ _ _ _ HPv.out v (by rw[HFN.out];exact hv));rw[HFb.out]at hwt;go_wp2_with fail;refine hwt.out.mono ?_;rintro e W9 ⟨rfl,hP9,_⟩;have HP9:Hid (PiI f W9 d (fun _=>0) 0 (fun i=>if i<v+1 then isUnst f.g f.q d i else false)):=hP9.congr (fun _ _=>rfl) (fun _ _=>rfl) (fun u _=>by
         by_cases e:u=v
         ·subst e;simp
         ·by_cases e2:u<v
          ·simp[e,e2,show u<v+1 by omega]
          ·simp[e,e2,show ¬u<v+1 by omega])
        clear hP9 hwt;go_simp;go_wp2_with fail;go_roundw;case rel=>exact⟨v+1,by omega,by go_num,HP9⟩
        case measure=>simp[intOf];omega
       ·have e:v=N:=by omega
        subst e;have hv1:¬(v:Int)<(v:Int):=by omega
        go_wp2;go_ret2;refine⟨f,_,by rw[HFb.out];rfl,HFN.out,HFq.out,HFg.out,by rw[HFW.out];exact HBW.out,HPv.out,fun u hu=> ?_⟩;rw[HFN.out];by_cases e2:u<v
        ·simp[e2]
        ·simp[e2]
theorem parts_con {g:G}(h:Gok g)(hp:parts g=1):∀k,k<g.n.toNat→Con g 0 k:=by
 intro k;induction k using Nat.strongRecOn with
 |ind k ih=>
  intro hk
  by_cases e:k=0
  ·subst e;exact Con.refl g 0
  ·by_cases hf:forestTo g g.es.length k=k
   ·exfalso
    have h0:forestTo g g.es.length 0=0:=(forest_least h 0).2 (fun ⟨j,hj,_⟩=>by omega);have h1:cr (forestTo g g.es.length) 1=1:=by simp[cr,h0]
    have h2:cr (forestTo g g.es.length) (k+1)=cr (forestTo g g.es.length) k+1:=by simp[cr,hf]
    have h3:=cr_mono (forestTo g g.es.length) 1 k (by omega);have h4:=cr_mono (forestTo g g.es.length) (k+1) g.n.toNat (by omega);rw[parts_forest h]at hp;omega
   ·have h5:∃j,j<k∧Con g j k:=Classical.byContradiction fun hn=>hf ((forest_least h k).2 hn)
    obtain⟨j,hj,hc⟩:=h5;exact(ih j hj (by omega)).trans hc
theorem sumTo_ge (f:Nat→Int)(h:∀k,0≤f k):∀n k,k<n→f k≤sumTo f n
 |0,k,hk=>by omega
 |n+1,k,hk=>by
  show f k≤sumTo f n+f n;have h0:∀m,0≤sumTo f m:=fun m=>by
   induction m with
   |zero=>exact Int.le_refl _
   |succ m ihm=>show 0≤sumTo f m+f m;have:=h m;omega
  by_cases e:k=n
  ·subst e;have:=h0 k;omega
  ·have:=sumTo_ge f h n k (by omega)
   have:=h n;omega
theorem val_pos {g:G}(h:Gok g)(hp:parts g=1){q v:Nat}(hq:q<g.n.toNat)(hv:v<g.n.toNat)(hne:v≠q):0<valence g v:=by
 have hc:Con g q v:=(parts_con h hp q hq).symm.trans (parts_con h hp v hv);refine Classical.byContradiction fun hn=> ?_;refine hc (fun x=>x≠v) (fun e=>hne e.symm) (fun x y hx ha e=> ?_) rfl;subst e;obtain⟨hxn,_,hb⟩:=ha;have h1:=sumTo_ge (valTerm g y) (fun k=>(h.valTerm_bd y k).1) g.n.toNat x hxn;have h2:valTerm g y x=btw g y x:=by unfold valTerm;rw[if_pos (by omega)];exact btw_comm g x y
 rw[h2,btw_comm]at h1;exact hn (by unfold valence;omega)
theorem cfg_con {g:G}{q:Int}{ds:List Int}(h:cfgErr g q ds=0):parts g=1:=by
 unfold cfgErr at h;by_cases h1:rootedErr g q=0
 ·have hk:=(rooted_ok h1).1
  unfold rootedErr at h1;unfold Gok at hk;simp only[hk]at h1;by_cases hp:parts g=1
  ·exact hp
  ·simp[hp]at h1
 ·rw[if_pos (by simpa using h1)]at h
  exact absurd h h1
def RetGiven (w:World)(g:G)(q:Int)(ds:List Int)(e:Ending)(w':World):Prop:=
 Below w.heap.size w w'∧((cfgErr g q ds≠0∧e= .returned (.tuple #[.pointer none,.int .i64 (cfgErr g q ds)]))∨
  (cfgErr g q ds=0∧∃(f:PFr) (wt:Nat→Bool),e= .returned (.tuple #[.pointer (some ⟨f.b,0,none⟩),.int .i64 0])∧f.N=g.n.toNat∧(f.q:Int)=q∧f.g=g∧Below w.heap.size w f.W0∧PiI f w' (dOf ds) (fun _=>0) 0 wt∧WtOk f (dOf ds) wt))
theorem p_pgiven (g:G)(gv:Value)(q:Int)(ds:List Int)(dv:Value)(w:World)(hg:GrR w gv g)(hd:IntsR w dv ds):
 Calls Tryz.prog 198 #[gv,.int .i64 q,dv] w (RetGiven w g q ds):=by
 have hg':=hg;obtain⟨ev,rfl,a,cap,rfl,_⟩:=hg';have hW:Below w.heap.size w (w.alloc (.cells #[.int .i64 g.n,.slice a g.es.length cap] 28)):=by go_grown
 have hck:=hid (p_stCheck g _ q ds _ _ (hg.below hW) (hd.below hW));by_cases hc:cfgErr g q ds=0
 case neg=>
  have HC:=hid hc;have hb:(cfgErr g q ds !=0)=true:=by simpa using hc
  unfold RetGiven;generalize cfgErr g q ds=z at*
  clear hc;go_enter Tryz.func198,Tryz.ntmps198;go_wp2_with (go_at_call 259;refine hck.out.mono ?_;rintro e w1 ⟨rfl,hB1⟩);go_ret2;exact⟨up hW hB1,.inl ⟨HC.out,rfl⟩⟩
 have hc':=cfg_ok hc;obtain⟨hk,hq0,hqn,hdl,_,_⟩:=hc';have hn:=hk.n;obtain⟨Q,rfl⟩:=Int.eq_ofNat_of_zero_le hq0;have hdN:ds=vecOf g.n.toNat (dOf ds):=by
  have:=vecOf_self ds;rw[show ds.length=g.n.toNat by omega]at this;exact this.symm
 have hpl:=hid (fun (w1:World) (h:Below w.heap.size w w1)=>p_pileOf g _ g.n.toNat (by omega) (by omega) Q (by omega) (dOf ds) _ w1 (hg.below h) hk (by rw[← hdN];exact hd.below h));have HC:=hid hc;rw[hc]at hck;clear hc hdN hdl;go_enter Tryz.func198,Tryz.ntmps198;go_wp2_with fail;refine hck.out.mono ?_;rintro e w1 ⟨rfl,hB1⟩;obtain⟨r1,r2⟩:=bcell hB1;have k1:=hid (up hW hB1);have u1:=(Blk.new w #[.int .i64 g.n,.slice a g.es.length cap] 28).below hB1;have u2:=u1.cell 0;have u3:=u1.cell 1;simp only[xG,xH,xI]at u2 u3;clear r1 r2 u1 hB1;go_simp;go_wp2_with fail;refine(hpl.out w1 k1.out).mono ?_;rintro e w2 ⟨f,wt,rfl,h1,h2,h3,h4,h5,h6⟩
 have H:=hid (And.intro h1 (And.intro h2 (And.intro h3 (And.intro h4 (And.intro h5 h6)))));clear h1 h2 h3 h4 h5 h6;go_simp;go_wp2;go_ret2;obtain⟨h1,h2,h3,h4,h5,h6⟩:=H.out;have k2:=k1.out.trans (h4.mono k1.out.size);exact⟨k2.trans (h5.below.mono k2.size),.inr ⟨HC.out,f,wt,rfl,h1,by rw[h2],h3,k2,h5,h6⟩⟩
def stabR (g:G)(q:Int)(ds:List Int):Int⊕St:=
 if cfgErr g q ds≠0 then .inl (cfgErr g q ds)
 else match stGo g q g.n.toNat (maxF+1) 0 ⟨dOf ds,fun _=>0⟩with
  |none=> .inl 12
  |some s=>if 1048576<s.L q.toNat then .inl 11 else .inr s
theorem settled_at {g:G}{q:Int}{ds:List Int}(hc:cfgErr g q ds=0)(f:PFr)(wt:Nat→Bool)(w1:World)(hN:f.N=g.n.toNat)(hq:(f.q:Int)=q)(hgf:f.g=g)(hP:PiI f w1 (dOf ds) (fun _=>0) 0 wt)(hW:WtOk f (dOf ds) wt):
 Calls Tryz.prog 199 #[.pointer (some ⟨f.b,0,none⟩)] w1 (RetStd f (stGo g q g.n.toNat (maxF+1) 0 ⟨dOf ds,fun _=>0⟩) w1):=by
 obtain⟨hk,hq0,hqn,hdl,_,_⟩:=cfg_ok hc;have hn:=hk.n;have hok:=cfg_bd hc f.N (by omega);have z:sumTo (fun _=>(0:Int)) f.N=0:=by
  have h1:sumTo (fun _=>(0:Int)) f.N=sumTo (fun w=>if w=f.N then(0:Int)else 0) f.N:=sumTo_congr _ _ _ fun k _=>by simp
  rw[h1,sumTo_one];simp
 have h:=p_settled f w1 ⟨dOf ds,fun _=>0⟩ 0 wt hP hW hok z.symm (Nat.zero_le _) (fun v hv hne=>by
  rw[hgf];exact val_pos hk (cfg_con hc) (q:=f.q) (by omega) (by omega) hne) (by omega)
 rw[hgf,hq,hN]at h;exact h
theorem p_Stabilize (g:G)(gv:Value)(q:Int)(ds:List Int)(dv:Value)(w:World)(hg:GrR w gv g)(hd:IntsR w dv ds):
 Calls Tryz.prog 145 #[gv,.int .i64 q,dv] w (RetTri 3 w g.n.toNat (stabR g q ds)):=by
 have hg':=hg;obtain⟨ev,rfl,a,cap,rfl,_⟩:=hg';have hW:Below w.heap.size w (w.alloc (.cells #[.int .i64 g.n,.slice a g.es.length cap] 28)):=by go_grown
 have hgv:=hid (p_pgiven g _ q ds _ _ (hg.below hW) (hd.below hW));by_cases hc:cfgErr g q ds=0
 case neg=>
  have hz:stabR g q ds= .inl (cfgErr g q ds):=by unfold stabR;rw[if_pos hc]
  rw[hz];have hb:(cfgErr g q ds !=0)=true:=by simpa using hc
  have HC:=hid hc;clear hc hz;go_enter Tryz.func145,Tryz.ntmps145;go_wp2_with fail;refine hgv.out.mono ?_;rintro e w1 ⟨hB1,⟨_,rfl⟩|⟨h0,_⟩⟩
  ·clear HC hgv
   generalize cfgErr g q ds=z at*
   go_simp;go_wp2;go_ret3;exact⟨up hW hB1,rfl⟩
  ·exact absurd h0 HC.out
 have HC:=hid hc;have hqn:=(cfg_ok hc).2;have hst:=hid (fun (f:PFr) (wt:Nat→Bool) (w1:World) hN hq hgf hP hW'=>settled_at hc f wt w1 hN hq hgf hP hW')
 have hz:stabR g q ds=match stGo g q g.n.toNat (maxF+1) 0 ⟨dOf ds,fun _=>0⟩with
  |none=> .inl 12
  |some s=>if 1048576<s.L q.toNat then .inl 11 else .inr s:=by unfold stabR;rw[if_neg (by simpa using hc)]
 rw[hz];have HQ:Hid (∀ f:PFr,(f.q:Int)=q→f.q=q.toNat):=fun f h=>by omega
 clear hc hz hqn;generalize stGo g q g.n.toNat (maxF+1) 0 ⟨dOf ds,fun _=>0⟩=z at*
 generalize hr:(match z with
  |none=>(.inl 12:Int⊕St)
  |some s=>if 1048576<s.L q.toNat then .inl 11 else .inr s)=r
 have HR:=hid hr;clear hr;go_enter Tryz.func145,Tryz.ntmps145;go_wp2_with fail;refine hgv.out.mono ?_;rintro e w1 ⟨hB1,⟨h0,_⟩|⟨_,f,wt,rfl,h1,h2,h3,h4,h5,h6⟩⟩
 ·exact absurd HC.out h0
 have hs:=hid (hst.out f wt w1 h1 h2 h3 h5 h6);have H1:=hid h1;have H2:=hid (HQ.out f h2);have HB1:=hid (up hW hB1);have HB4:=hid (up hW h4);have hlw:=h5.below.size;clear hgv hst h1 h2 h3 h4 h5 h6 hB1 hg hd hW HQ hlw;go_simp;go_wp2_with fail;refine hs.out.mono ?_;rintro e w2 ⟨s,tot,wt2,hP,hK,hS,⟨rfl,rfl⟩|⟨rfl,rfl⟩⟩
 ·have k2:=hid (HB4.out.trans (hP.below.mono HB4.out.size))
  have hl:=hid (owns_base hP.left HB4.out.size);have hf:=hid (owns_base hP.fired HB4.out.size);obtain⟨p0,_,_,_,p4,_⟩:=hP.cells;have l0:=hP.blk.lt;have HN:=H1.out;rw[HN]at hl hf p0 p4;have HQ:=H2.out;rw[HQ];clear hP hK hS hs HN HQ;by_cases hx:1048576<s.L q.toNat
  ·have e:(if 1048576<s.L q.toNat then(11:Int)else 0)=11:=if_pos hx
   have e2:r= .inl 11:=by rw[← HR.out];exact if_pos hx
   clear HR;subst e2;rw[e];clear e hx p0 p4;go_simp;go_wp2;go_ret3;exact⟨k2.out,rfl⟩
  ·have e:(if 1048576<s.L q.toNat then(11:Int)else 0)=0:=if_neg hx
   have e2:r= .inr s:=by rw[← HR.out];exact if_neg hx
   clear HR;subst e2;rw[e];clear e hx;go_simp;go_wp2;go_quiet (fail);go_wp2;go_ret3;exact⟨below_dN k2.out _,_,_,_,_,rfl,owns_dN hl.out _,owns_dN hf.out _⟩
 ·have k2:=hid (HB4.out.trans (hP.below.mono HB4.out.size))
  have e2:r= .inl 12:=HR.out.symm;clear HR;subst e2;clear hP hK hS hs;go_simp;go_wp2;go_ret3;exact⟨k2.out,rfl⟩
end Go.Proofs.YtclgllmipcbagaaGreatDoor
