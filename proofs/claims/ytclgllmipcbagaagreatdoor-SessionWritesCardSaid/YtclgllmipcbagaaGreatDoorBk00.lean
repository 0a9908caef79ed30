/-
  Parts of the proof: XLib XReg XSpec XSpec2
-/
import Derived.WalkKit
import Derived.WalkSpells
import Derived.WalkLawsBesides
import Derived.Handy
import Derived.Deep.RegionLaw
import Derived.Deep.QuietTactic
import Derived.BigQuiet
import Derived.Deep.LoopGhost
import Derived.StillTail
import Derived.OrdersHeld
namespace Go.Proofs.YtclgllmipcbagaaGreatDoor
theorem xA {α:Type _}{β:Type _}{f:α→β}{a:α}{l:List α}:(a::l).map f=f a::l.map f:=rfl
theorem xB {α:Type _}{β:Type _}{f:α→β}:[].map f=[]:=rfl
theorem xC {α:Type _}{x:α}{xs:List α}{d:α}:(x::xs).getD 0 d=x:=rfl
theorem xD {α:Type _}{x:α}{xs:List α}{n:Nat}{d:α}:(x::xs).getD (n+1) d=xs.getD n d:=rfl
theorem xE {α:Type _}{a:α}{l:List α}{i:Nat}:(a::l).drop (i+1)=l.drop i:=rfl
theorem xF {α:Type _}{l:List α}:l.drop 0=l:=rfl
theorem xG {α:Type _}{l:List α}{i:Nat}:l.toArray[i]? =l[i]? :=List.getElem?_toArray
theorem xH {α:Type _}{a:α}{l:List α}:(a::l)[0]? =some a:=rfl
theorem xI {α:Type _}{a:α}{l:List α}{i:Nat}:(a::l)[i+1]? =l[i]? :=rfl
theorem xJ {α:Type _}{x:α}{xs:List α}{a:α}:(x::xs).set 0 a=a::xs:=rfl
theorem xK {α:Type _}{x:α}{xs:List α}{i:Nat}{a:α}:(x::xs).set (i+1) a=x::xs.set i a:=rfl
theorem xM {α:Type _}{l:List α}{i:Nat}{a:α}:l.toArray.setIfInBounds i a=(l.set i a).toArray:=List.setIfInBounds_toArray ..
end Go.Proofs.YtclgllmipcbagaaGreatDoor
namespace Go.Proofs.YtclgllmipcbagaaGreatDoor
set_option linter.unusedVariables false
set_option linter.unusedSimpArgs false
set_option maxRecDepth 100000
set_option maxHeartbeats 16000000
open Go.RowKit
theorem hid {p:Prop}(h:p):Hid p:=h
theorem up {w W w':World}(h0:Below w.heap.size w W)(h:Below W.heap.size W w'):Below w.heap.size w w':=h0.trans (h.mono h0.size)
theorem bcell {W w1:World}(hb:Below W.heap.size W w1):(∀ b o,b<W.heap.size→w1.cell? ⟨b,o,none⟩=W.cell? ⟨b,o,none⟩)∧(∀ b o,b<W.heap.size→w1.frozen? ⟨b,o,none⟩=W.frozen? ⟨b,o,none⟩):=
 ⟨fun b o h=>hb.cell (p:=⟨b,o,none⟩) h,fun b o h=>hb.frozen (p:=⟨b,o,none⟩) h⟩
def firstNZ (f:Nat→Int):Nat→Nat→Int
 |_,0=>0
 |i,n+1=>if f i≠0 then f i else firstNZ f (i+1) n
theorem ret_int {k:IntKind}{a b:Int}(h:a=b):Ending.returned (.int k a)= .returned (.int k b):=by rw[h]
theorem ret_bool {a b:Bool}(h:a=b):Ending.returned (.bool a)= .returned (.bool b):=by rw[h]
def CellsAt (w:World)(a:Option Addr)(cs:List Value):Prop:=
 cs=[]∨∃b off,a=some ⟨b,off,none⟩∧b<w.heap.size∧∀i,i<cs.length→w.cell? ⟨b,off+i,none⟩=cs[i]?
theorem CellsAt.below {w w':World}{a:Option Addr}{cs:List Value}(h:CellsAt w a cs)(hb:Below w.heap.size w w'):CellsAt w' a cs:=by
 rcases h with h|⟨b,off,rfl,hl,hc⟩
 ·exact .inl h
 ·exact .inr ⟨b,off,rfl,Nat.lt_of_lt_of_le hl hb.size,fun i hi=>(hb.cell hl).trans (hc i hi)⟩
def IntsR (w:World)(v:Value)(xs:List Int):Prop:=
 ∃a cap,v= .slice a xs.length cap∧xs.length≤cap∧cap≤9223372036854775807∧xs.length*8≤140737488355328∧CellsAt w a (xs.map (Value.int .i64))
theorem IntsR.below {w w':World}{v:Value}{xs:List Int}(h:IntsR w v xs)(hb:Below w.heap.size w w'):IntsR w' v xs:=by
 obtain⟨a,cap,h1,h2,h3,h4,h5⟩:=h;exact⟨a,cap,h1,h2,h3,h4,h5.below hb⟩
theorem CellsAt.int {w:World}{a:Option Addr}{xs:List Int}(h:CellsAt w a (xs.map (Value.int .i64)))(hk:0<xs.length):
 ∃b off,a=some ⟨b,off,none⟩∧b<w.heap.size∧∀k,k<xs.length→w.cell? ⟨b,off+k,none⟩=some (.int .i64 (xs[k]?.getD 0)):=by
 rcases h with h|⟨b,off,rfl,hl,hc⟩
 ·simp at h;subst h;simp at hk
 ·refine⟨b,off,rfl,hl,fun k hk=> ?_⟩
  rw[hc k (by simpa using hk)];simp[hk]
theorem owns_base {w:World}{base base':Nat}{e:TypeId}{size:Nat}{v:Value}{n:Nat}{xs:List Value}(h:w.ownsRow base e size v n xs)(hb:base'≤base):w.ownsRow base' e size v n xs:=by
 refine⟨h.1,?_⟩;rcases h.2 with hn|⟨g,cap,cur,hv,hbg,rest⟩
 ·exact .inl hn
 ·exact .inr ⟨g,cap,cur,hv,Nat.le_trans hb hbg,rest⟩
theorem ints_oneCell' (l:List Int):∀u∈l.map (Value.int .i64),u.oneCell'=true:=by
 intro u hu;obtain⟨x,_,rfl⟩:=List.mem_map.1 hu;rfl
structure E where
 a:Int
 b:Int
 m:Int
 deriving DecidableEq,Inhabited
def E.cells (x:E):List Value:=[.int .i64 x.a,.int .i64 x.b,.int .i64 x.m]
structure G where
 n:Int
 es:List E
 deriving DecidableEq,Inhabited
def EdgesR (w:World)(v:Value)(es:List E):Prop:=
 ∃a cap,v= .slice a es.length cap∧es.length≤cap∧cap≤9223372036854775807∧es.length*24≤140737488355328∧CellsAt w a (es.flatMap E.cells)
theorem EdgesR.below {w w':World}{v:Value}{es:List E}(h:EdgesR w v es)(hb:Below w.heap.size w w'):EdgesR w' v es:=by
 obtain⟨a,cap,h1,h2,h3,h4,h5⟩:=h;exact⟨a,cap,h1,h2,h3,h4,h5.below hb⟩
theorem flat_length (es:List E):(es.flatMap E.cells).length=es.length*3:=by
 induction es with
 |nil=>rfl
 |cons x es ih=>simp[E.cells,ih];omega
theorem flat_get (es:List E):∀k,k<es.length→∀j,j<3→(es.flatMap E.cells)[k*3+j]? =(es[k]?.getD default).cells[j]? :=by
 induction es with
 |nil=>intro k hk;simp at hk
 |cons x es ih=>
  intro k hk j hj
  cases k with
  |zero=>
   simp only[List.flatMap_cons,Nat.zero_mul,Nat.zero_add,xH,Option.getD_some]
   rw[List.getElem?_append_left (by simp[E.cells];omega)]
  |succ k=>
   simp only[List.flatMap_cons,xI]
   rw[List.getElem?_append_right (by simp[E.cells];omega)]
   rw[← ih k (by simpa using hk) j hj]
   congr 1
   simp[E.cells];omega
theorem CellsAt.edge {w:World}{a:Option Addr}{es:List E}(h:CellsAt w a (es.flatMap E.cells))(hk:0<es.length):
 ∃b off,a=some ⟨b,off,none⟩∧b<w.heap.size∧∀k,k<es.length→w.cell? ⟨b,off+k*3,none⟩=some (.int .i64 (es[k]?.getD default).a)∧
  w.cell? ⟨b,off+k*3+1,none⟩=some (.int .i64 (es[k]?.getD default).b)∧w.cell? ⟨b,off+k*3+2,none⟩=some (.int .i64 (es[k]?.getD default).m):=by
 rcases h with h|⟨b,off,rfl,hl,hc⟩
 ·have:=flat_length es;rw[h]at this;simp at this;omega
 ·refine⟨b,off,rfl,hl,fun k hk=> ?_⟩
  have hl3:=flat_length es;refine⟨?_,?_,?_⟩
  ·rw[hc (k*3) (by omega)];exact flat_get es k hk 0 (by omega)
  ·rw[Nat.add_assoc,hc (k*3+1) (by omega)];exact flat_get es k hk 1 (by omega)
  ·rw[Nat.add_assoc,hc (k*3+2) (by omega)];exact flat_get es k hk 2 (by omega)
def GrR (w:World)(v:Value)(g:G):Prop:=∃ev,v= .agg #[.int .i64 g.n,ev]∧EdgesR w ev g.es
theorem GrR.below {w w':World}{v:Value}{g:G}(h:GrR w v g)(hb:Below w.heap.size w w'):GrR w' v g:=by
 obtain⟨ev,h1,h2⟩:=h;exact⟨ev,h1,h2.below hb⟩
theorem Below.toGrown {w w':World}(h:Below w.heap.size w w')(row:Option Nat):w.grownBy w' row:=⟨h.os,h.tape,h.output,h.size,fun k hk _=>h.block k hk⟩
theorem owns_below {w w':World}{base:Nat}{e:TypeId}{size:Nat}{v:Value}{n:Nat}{xs:List Value}(h:w.ownsRow base e size v n xs)(hB:Below w.heap.size w w'):w'.ownsRow base e size v n xs:=
 h.kept (Below.toGrown hB none) (by cases hv:v.ownBlock<;>simp)
theorem bcellB {B:Nat}{W w1:World}(hb:Below B W w1):(∀ b o,b<B→w1.cell? ⟨b,o,none⟩=W.cell? ⟨b,o,none⟩)∧(∀ b o,b<B→w1.frozen? ⟨b,o,none⟩=W.frozen? ⟨b,o,none⟩):=
 ⟨fun b o h=>hb.cell (p:=⟨b,o,none⟩) h,fun b o h=>hb.frozen (p:=⟨b,o,none⟩) h⟩
theorem owns_int {w:World}{base:Nat}{e:TypeId}{g n cap:Nat}{l:List Int}(h:w.ownsRow base e 1 (.slice (some ⟨g,0,none⟩) n cap) n (l.map (Value.int .i64)))(k:Nat)(hk:k<n):
 w.cell? ⟨g,k,none⟩=some (.int .i64 (l[k]?.getD 0)):=by
 have hl:=h.1;simp only[List.length_map,Nat.mul_one]at hl;rw[h.cellAt k (by omega)];simp[show k<l.length by omega]
theorem owns_set {α:Type}{w:World}{base:Nat}{e:TypeId}{g n cap:Nat}{f:α→Value}{l:List α}(h:w.ownsRow base e 1 (.slice (some ⟨g,0,none⟩) n cap) n (l.map f))(k:Nat)(u:α):
 (w.setCell ⟨g,k,none⟩ (f u)).ownsRow base e 1 (.slice (some ⟨g,0,none⟩) n cap) n ((l.set k u).map f):=by
 rw[List.map_set];exact(h.stored k (f u)).1
theorem owns_lt {w:World}{base:Nat}{e:TypeId}{size g n cap:Nat}{xs:List Value}(h:w.ownsRow base e size (.slice (some ⟨g,0,none⟩) n cap) n xs):base≤g∧g<w.heap.size:=h.lt g rfl
theorem grown_set (w:World)(g k:Nat)(u:Value):w.grownBy (w.setCell ⟨g,k,none⟩ u) (some g):=
 ⟨rfl,rfl,rfl,by simp[World.setCell],fun j _ hne=>Below.heap_setCell _ _ _ _ (by simpa using hne)⟩
theorem owns_other {w:World}{base:Nat}{e:TypeId}{size b n cap:Nat}{xs:List Value}(h:w.ownsRow base e size (.slice (some ⟨b,0,none⟩) n cap) n xs){g:Nat}(hne:b≠g)(k:Nat)(u:Value):
 (w.setCell ⟨g,k,none⟩ u).ownsRow base e size (.slice (some ⟨b,0,none⟩) n cap) n xs:=h.kept (grown_set w g k u) (.inr (by simpa[Value.ownBlock]using hne))
def worldly (o:Oper):Bool:=
 match o.op with
 | .move _| .assign _| .pick .. | .load .. | .nilCheck _| .binOp .. | .unOp .. | .convert .. | .fieldAddr .. | .field .. | .indexAddr .. | .index .. | .slice .. | .build .. | .extract .. | .makeInterface .. | .makeFunc .. | .lookup .. =>false
 | .call {callee:= .builtin .len,.. }| .call {callee:= .builtin .cap,.. }| .call {callee:= .builtin .min,.. }| .call {callee:= .builtin .max,.. }=>false
 |_=>true
section
variable {P : Program} {ops : Array Oper} {md : Region.Mode} {Q : Exit → Act → World → Prop} {S : World → Prop}
def wpAnyW (P:Program)(md:Region.Mode)(ops:Array Oper)(Q:Exit→Act→World→Prop)(S:World→Prop)(n:Nat)(L:Array Bool→Act→World→Prop):Nat→Array Bool→Act→World→Prop
 |0,listed,a,w=>L listed a w
 |f+1,listed,a,w=>Region.ready md ops listed≠[]∧∀i∈Region.ready md ops listed,i<n∧wpOp P ops Q i (fun a' w'=>S w'∧wpAnyW P md ops Q S n L f (listed.setIfInBounds i true) a' w') a w
theorem wpAny_of_headW {n g:Nat}{L:Array Bool→Act→World→Prop}(hL:∀listed a w,L listed a w→wpAny P md ops Q g listed a w):
 ∀(f:Nat) (listed:Array Bool) (a:Act) (w:World),wpAnyW P md ops Q S n L f listed a w→wpAny P md ops Q (f+g) listed a w
 |0,listed,a,w,h=>by rw[Nat.zero_add];exact hL _ _ _ h
 |f+1,listed,a,w,h=>by
  rw[show f+1+g=(f+g)+1 by omega];exact⟨fun h0=>absurd h0 h.1,fun i hi=>wpOp_mono (fun a' w' h'=>wpAny_of_headW hL f _ a' w' h'.2) (h.2 i hi).2⟩
theorem wpAnyW_first {n i:Nat}{oi:Oper}{v:Value}{L:Array Bool→Act→World→Prop}(hi:ops[i]? =some oi)(hsel:∀(j:Nat) (o:Oper) cs b,ops[j]? =some o→o.op≠ .select cs b)
 (hs:Region.sinkB md ops n=true) (hc:Region.chainB md ops n=true) (hn:n<ops.size) (hin:i<n)
 (hQ:∀c a w,Q (.panic c) (a.put oi.dst v) w→Q (.panic c) a w)
 (hdone:∀listed a w,L listed a w→∀j∈Region.ready md ops listed,n≤j):
 ∀(f:Nat) (listed:Array Bool) (a:Act) (w:World),HeadInv md ops n listed→
  (∀ j oj,ops[j]? =some oj→j≠i→listed.getD j true=false→(∀ e∈oj.after,Region.binds md e=true→e.on≠i)→oi.apart ops oj=true)→
  i∈Region.ready md ops listed→YieldsIf P ops S oi v a→S w→
  wpAnyW P md ops Q S n L f (listed.setIfInBounds i true) (a.put oi.dst v) w→wpAnyW P md ops Q S n L (f+1) listed a w:=by
 intro f;induction f with
 |zero=>
  intro listed a w inv _ hr hy hS H
  refine⟨fun h=>(by rw[h]at hr;cases hr),fun j hj=> ?_⟩
  by_cases hji:j=i
  ·subst hji;exact⟨hin,hy.wpOp hi hS ⟨hS,H⟩⟩
  ·exfalso
   have h1:=hdone _ _ _ H j (ready_mono hj hji);exact tail_waits hs hc hn inv (n-i) i rfl hin (mem_ready.1 hr).1 j h1 hj
 |succ f ih=>
  intro listed a w inv hfree hr hy hS H
  refine⟨fun h=>(by rw[h]at hr;cases hr),fun j hj=> ?_⟩
  by_cases hji:j=i
  ·subst hji;exact⟨hin,hy.wpOp hi hS ⟨hS,H⟩⟩
  ·obtain⟨hjn,h1⟩:=H.2 j (ready_mono hj hji)
   obtain⟨hjun,oj,hoj,hall⟩:=mem_ready.1 hj;have hnot:∀e∈oj.after,Region.binds md e=true→e.on≠i:=fun e he hb heq=>by
    have h1:=hall e he hb;have h0:=(mem_ready.1 hr).1;rw[heq,getD_both h0]at h1;cases h1
   have h2:=wpOp_putIf hoj (hfree j oj hoj hji hjun hnot) (fun cs b=>hsel i oi cs b hi) (fun cs b=>hsel j oj cs b hoj) hQ hy h1
   have hfree':∀k ok,ops[k]? =some ok→k≠i→(listed.setIfInBounds j true).getD k true=false→
    (∀ e∈ok.after,Region.binds md e=true→e.on≠i)→oi.apart ops ok=true:=fun k ok hk hki hun hno=>by
    refine hfree k ok hk hki ?_ hno;by_cases hjk:j=k
    ·subst hjk;exact hjun
    ·rw[getD_set_ne true hjk]at hun;exact hun
   refine⟨hjn,wpOp_mono (fun a' w' h3=>⟨h3.2.1,ih (listed.setIfInBounds j true) a' w' (inv.set hj hjn) hfree' (ready_mono hr (Ne.symm hji)) h3.1 h3.2.1 ?_⟩) h2⟩;rw[Array.setIfInBounds_comm _ _ hji];exact h3.2.2
def wpSeq (P:Program)(ops:Array Oper)(Q:Exit→Act→World→Prop)(S:World→Prop)(R:Act→World→Prop):List Oper→Act→World→Prop
 |[],a,w=>R a w
 |o::l,a,w=>
  if worldly o=true then
   (Region.wanted o (yielded ops a.tmps)=true∧o.wp P a w (fun a' w'=>S w'∧wpSeq P ops Q S R l a' w') Q)∨(Region.wanted o (yielded ops a.tmps)=false∧wpSeq P ops Q S R l (a.put o.dst undef) w)
  else ∃v,YieldsIf P ops S o v a∧wpSeq P ops Q S R l (a.put o.dst v) w
theorem wpSeq_nil {R:Act→World→Prop}{a:Act}{w:World}(h:R a w):wpSeq P ops Q S R [] a w:=h
theorem wpSeq_take {R:Act→World→Prop}{a:Act}{w:World}{o:Oper}{l:List Oper}(ho:worldly o=false)(v:Value)(hg:Region.wanted o (yielded ops a.tmps)=true)
 (hr:∀w',S w'→(execOp a.eval o).run P w'= .ok (.value v) w') (h:wpSeq P ops Q S R l (a.put o.dst v) w):wpSeq P ops Q S R (o::l) a w:=by
 unfold wpSeq;rw[if_neg (by rw[ho];simp)];exact⟨v,.inl ⟨hg,hr⟩,h⟩
theorem wpSeq_skip {R:Act→World→Prop}{a:Act}{w:World}{o:Oper}{l:List Oper}(hg:Region.wanted o (yielded ops a.tmps)=false)
 (h:wpSeq P ops Q S R l (a.put o.dst undef) w):wpSeq P ops Q S R (o::l) a w:=by
 unfold wpSeq;split
 ·exact .inr ⟨hg,h⟩
 ·exact⟨undef,.inr ⟨hg,rfl⟩,h⟩
theorem wpSeq_call {R:Act→World→Prop}{a:Act}{w:World}{o:Oper}{l:List Oper}(ho:worldly o=true)(hg:Region.wanted o (yielded ops a.tmps)=true)
 (h:∀K:Act→World→Prop,(∀ a' w',S w'→wpSeq P ops Q S R l a' w'→K a' w')→o.wp P a w K Q):wpSeq P ops Q S R (o::l) a w:=by
 unfold wpSeq;rw[if_pos ho];exact .inl ⟨hg,h _ fun a' w' h1 h2=>⟨h1,h2⟩⟩
def lexHeadW (md:Region.Mode)(ops:Array Oper)(g n:Nat):List Nat→Array Bool→Bool
 |[],listed=>Region.seqB md ops g n listed
 |k::ks,listed=>decide (k<n)&&(Region.ready md ops listed).contains k&&(match ops[k]? with
   |some o=>if worldly o then decide (Region.ready md ops listed=[k])else Region.free md ops listed k
   |none=>false)&&lexHeadW md ops g n ks (listed.setIfInBounds k true)
theorem wpAnyW_lex {n g:Nat}{R:Act→World→Prop}(hsel:Region.noSelect ops=true)(hs:Region.sinkB md ops n=true)(hc:Region.chainB md ops n=true)(hn:n<ops.size)
 (hQ:∀c a d v w,Q (.panic c) (Act.put a d v) w→Q (.panic c) a w):
 ∀(ks:List Nat) (listed:Array Bool) (a:Act) (w:World),HeadInv md ops n listed→
 lexHeadW md ops g n ks listed=true→S w→wpSeq P ops Q S R (ks.map fun k=>ops.getD k default) a w→
 wpAnyW P md ops Q S n (fun listed' a' w'=>Region.seqB md ops g n listed'=true∧R a' w') ks.length listed a w
 |[],listed,a,w,_,hB,_,h=>⟨by simpa[lexHeadW]using hB,h⟩
 |k::ks,listed,a,w,inv,hB,hS,h=>by
  simp only[lexHeadW,Bool.and_eq_true,decide_eq_true_eq]at hB;obtain⟨⟨⟨hkn,hr⟩,hf⟩,hB'⟩:=hB;have hr':k∈Region.ready md ops listed:=by simpa using hr
  obtain⟨o,h0⟩:∃o,ops[k]? =some o:=⟨ops[k],by simp[show k<ops.size by omega]⟩;have he:ops.getD k default=o:=by simp[Array.getD_eq_getD_getElem?,h0]
  simp only[h0]at hf;rw[List.map_cons,he]at h;have ih:=fun a' w' (hS':S w') (h':wpSeq P ops Q S R (ks.map fun k=>ops.getD k default) a' w')=>wpAnyW_lex (g:=g) hsel hs hc hn hQ ks (listed.setIfInBounds k true) a' w' (inv.set hr' hkn) hB' hS' h';by_cases hw:worldly o=true
  ·rw[if_pos hw]at hf
   have hone:Region.ready md ops listed=[k]:=by simpa using hf
   unfold wpSeq at h;rw[if_pos hw]at h;refine⟨fun h1=>(by rw[hone]at h1;cases h1),fun i hi=> ?_⟩;rw[hone]at hi;obtain rfl:i=k:=by simpa using hi
   refine⟨hkn,?_⟩;unfold wpOp;simp only[h0];rcases h with ⟨hg,h⟩|⟨hg,h⟩
   ·rw[if_pos hg]
    have hop:wpOp P ops Q i (fun a' w'=>S w'∧wpSeq P ops Q S R (ks.map fun k=>ops.getD k default) a' w') a w:=by unfold wpOp;simp only[h0];rw[if_pos hg];exact .inl h
    have:=wpOp_mono (fun a' w' h'=>(⟨h'.1,ih a' w' h'.1 h'.2⟩:S w'∧_)) hop;unfold wpOp at this;simp only[h0]at this;rw[if_pos hg]at this;exact this
   ·rw[if_neg (by rw[hg];simp)]
    exact⟨hS,ih _ _ hS h⟩
  ·rw[if_neg hw]at hf
   unfold wpSeq at h;rw[if_neg hw]at h;obtain⟨v,hy,h⟩:=h;exact wpAnyW_first h0 (Region.noSelect_spec hsel) hs hc hn hkn (fun c a w=>hQ c a o.dst v w) (fun listed' a' w' hL=>seqB_ready hL.1) ks.length listed a w inv (Region.free_spec h0 hf) hr' hy hS (ih _ _ hS h)
def textB (ops:Array Oper)(n:Nat)(ks:List Nat):Bool:=
 Region.noSelect ops&&decide (n<ops.size)&&decide (ks.length=n)&&Region.sinkB .any ops n&&Region.chainB .any ops n&&lexHeadW .any ops (ops.size-n) n ks (Array.replicate ops.size false)
theorem wp_region_text {id:Nat}{a:Act}{w:World}{l:List Oper}(n:Nat)(ks:List Nat)(S:World→Prop)(hm:P.follows .mixedOrders=true)(hB:textB l.toArray n ks=true)
 (hQ:∀c a d v w,Q (.panic c) (Act.put a d v) w→Q (.panic c) a w) (hS:S w.drew)
 (h:wpSeq P l.toArray Q S (fun a' w'=>wpList P l.toArray Q (l.drop n) a' w') (ks.map fun k=>l.getD k default) a w.drew):(Code.region id l.toArray true).wp P Q a w:=by
 unfold textB at hB;simp only[Bool.and_eq_true,decide_eq_true_eq]at hB;obtain⟨⟨⟨⟨⟨hsel,hn⟩,hkl⟩,hs⟩,hc⟩,hlex⟩:=hB;have hn':n<l.length:=by simpa using hn
 have hdl:(l.drop n).length=l.toArray.size-n:=by simp
 have inv0:HeadInv .any l.toArray n (Array.replicate l.toArray.size false):=
  ⟨by simp,fun j oj _ hl=>(by rw[getD_replicate_false]at hl;cases hl),fun t _ ht=>getD_in (by simpa using ht) (getD_replicate_false _ _)⟩
 have he:(ks.map fun k=>l.toArray.getD k default)=ks.map fun k=>l.getD k default:=by
  apply List.map_congr_left;intro k _;simp[Array.getD_eq_getD_getElem?]
 have H:=wpAnyW_lex (md:= .any) (g:=l.toArray.size-n) (R:=fun a' w'=>wpList P l.toArray Q (l.drop n) a' w') hsel hs hc hn hQ ks _ a w.drew inv0 hlex hS (by rw[he];exact h);refine wp_region_any hm ?_;have:=wpAny_of_headW (Q:=Q) (g:=l.toArray.size-n) (fun listed a' w' hL=>by
  have:=wpAny_of_seq (md:= .any) (Q':=Q) (l.drop n) n listed a' w' (fun j=>by simp[List.getElem?_drop]) (by rw[hdl];exact hL.1) hL.2;rwa[hdl]at this) _ _ _ _ H
 rw[hkl,show n+(l.toArray.size-n)=l.toArray.size by omega]at this;exact this
end
section
variable {P : Program} {ops : Array Oper} {md : Region.Mode} {Q : Exit → Act → World → Prop} {S : World → Prop}
def ancB (md:Region.Mode)(ops:Array Oper):Nat→Nat→Nat→Bool
 |0,j,i=>Region.waitsFor md ops j i
 |f+1,j,i=>Region.waitsFor md ops j i||(List.range ops.size).any fun k=>Region.waitsFor md ops j k&&ancB md ops f k i
theorem ancB_spec {n:Nat}{listed:Array Bool}(inv:HeadInv md ops n listed):∀(f j i:Nat),ancB md ops f j i=true→(listed.getD j false=true∨j∈Region.ready md ops listed)→listed.getD i false=true:=by
 have base:∀(j i:Nat),Region.waitsFor md ops j i=true→(listed.getD j false=true∨j∈Region.ready md ops listed)→listed.getD i false=true:=by
  intro j i h hj;obtain⟨oj,hoj,e,he,hb,hon⟩:=Region.waitsFor_spec h;rcases hj with hj|hj
  ·have:=inv.closed j oj hoj hj e he hb
   rwa[hon]at this
  ·obtain⟨_,oj',hoj',hall⟩:=mem_ready.1 hj
   have:oj=oj':=Option.some.inj (hoj.symm.trans hoj');subst this;have:=hall e he hb;rwa[hon]at this
 intro f;induction f with
 |zero=>exact base
 |succ f ih=>
  intro j i h hj
  unfold ancB at h
  simp only[Bool.or_eq_true]at h
  rcases h with h|h
  ·exact base j i h hj
  ·obtain⟨k,_,hk⟩:=List.any_eq_true.1 h
   simp only[Bool.and_eq_true]at hk;exact ih k i hk.2 (.inl (base j k hk.1 hj))
def lexHeadG (md:Region.Mode)(ops:Array Oper)(F:Array Bool→Bool)(n:Nat):List Nat→Array Bool→Bool
 |[],listed=>(Region.ready md ops listed).all (fun j=>decide (n≤j))&&F listed
 |k::ks,listed=>decide (k<n)&&(Region.ready md ops listed).contains k&&(match ops[k]? with
   |some o=>if worldly o then decide (Region.ready md ops listed=[k])else Region.free md ops listed k
   |none=>false)&&lexHeadG md ops F n ks (listed.setIfInBounds k true)
end
def vtx (n v:Int):Bool:=decide (0≤v)&&decide (v<n)
def edgeErr (g:G)(i:Nat):Int:=
 if !vtx g.n (g.es[i]?.getD default).a|| !vtx g.n (g.es[i]?.getD default).b||decide ((g.es[i]?.getD default).m<1)||decide (50<(g.es[i]?.getD default).m)then 2
 else if (g.es[i]?.getD default).b<(g.es[i]?.getD default).a then 9
 else if 0<i∧((g.es[i]?.getD default).a<(g.es[i-1]?.getD default).a∨(g.es[i]?.getD default).a=(g.es[i-1]?.getD default).a∧(g.es[i]?.getD default).b≤(g.es[i-1]?.getD default).b)then 9
 else 0
def checkErr (g:G):Int:=if g.n<1∨12<g.n then 2 else firstNZ (edgeErr g) 0 g.es.length
def bet (lo hi:Int):List E→Int
 |[]=>0
 |x::es=>if x.a=lo∧x.b=hi then x.m else bet lo hi es
theorem drop_step {α:Type}[Inhabited α](l:List α)(k:Nat)(h:k<l.length):l.drop k=(l[k]?.getD default)::l.drop (k+1):=by
 rw[List.drop_eq_getElem_cons h];simp[h]
theorem firstNZ_zero (f:Nat→Int):∀n i,firstNZ f i n=0→∀k,i≤k→k<i+n→f k=0:=by
 intro n;induction n with
 |zero=>intro i _ k h1 h2;omega
 |succ n ih=>
  intro i h k h1 h2
  unfold firstNZ at h
  split at h
  ·exact absurd h (by assumption)
  ·rename_i h0
   by_cases e:k=i
   ·subst e;simpa using h0
   ·exact ih (i+1) h k (by omega) (by omega)
def Gok (g:G):Prop:=checkErr g=0
theorem Gok.n {g:G}(h:Gok g):1≤g.n∧g.n≤12:=by
 unfold Gok checkErr at h;split at h
 ·omega
 ·omega
theorem Gok.edge {g:G}(h:Gok g)(k:Nat)(hk:k<g.es.length):edgeErr g k=0:=by
 unfold Gok checkErr at h;split at h
 ·omega
 ·exact firstNZ_zero _ _ _ h k (Nat.zero_le _) (by omega)
theorem Gok.ends {g:G}(h:Gok g)(k:Nat)(hk:k<g.es.length):
 0≤(g.es[k]?.getD default).a∧(g.es[k]?.getD default).a≤(g.es[k]?.getD default).b∧(g.es[k]?.getD default).b<g.n∧
  1≤(g.es[k]?.getD default).m∧(g.es[k]?.getD default).m≤50:=by
 have he:=h.edge k hk;unfold edgeErr vtx at he;grind
theorem Gok.mem {g:G}(h:Gok g){x:E}(hx:x∈g.es):0≤x.a∧x.a≤x.b∧x.b<g.n∧1≤x.m∧x.m≤50:=by
 obtain⟨k,hk,rfl⟩:=List.mem_iff_getElem.1 hx;have:=h.ends k hk;simpa[hk]using this
theorem bet_mem (lo hi:Int)(P:Int→Prop)(h0:P 0):∀es:List E,(∀ x∈es,P x.m)→P (bet lo hi es)
 |[],_=>h0
 |x::es,h=>by
  unfold bet;split
  ·exact h x (by simp)
  ·exact bet_mem lo hi P h0 es fun y hy=>h y (by simp[hy])
theorem Gok.bet_bd {g:G}(h:Gok g)(lo hi:Int):0≤bet lo hi g.es∧bet lo hi g.es≤50:=
 bet_mem lo hi (fun m=>0≤m∧m≤50) (by omega) g.es fun x hx=>by have:=h.mem hx;omega
def sumTo (f:Nat→Int):Nat→Int
 |0=>0
 |n+1=>sumTo f n+f n
theorem sumTo_bd (f:Nat→Int)(c:Int)(h:∀k,0≤f k∧f k≤c):∀n:Nat,0≤sumTo f n∧sumTo f n≤n*c
 |0=>by simp[sumTo]
 |n+1=>by
  have h1:=sumTo_bd f c h n;have h2:=h n;unfold sumTo;have:((n+1:Nat):Int)*c=n*c+c:=by rw[Int.natCast_succ,Int.add_mul];simp
  omega
def btw (g:G)(u v:Int):Int:=bet (min u v) (max u v) g.es
def valTerm (g:G)(v:Int)(u:Nat):Int:=if (u:Int)≠v then btw g u v else 0
def valence (g:G)(v:Int):Int:=sumTo (valTerm g v) g.n.toNat
theorem Gok.btw_bd {g:G}(h:Gok g)(u v:Int):0≤btw g u v∧btw g u v≤50:=h.bet_bd _ _
theorem Gok.valTerm_bd {g:G}(h:Gok g)(v:Int)(u:Nat):0≤valTerm g v u∧valTerm g v u≤50:=by
 unfold valTerm;have:=h.btw_bd u v;split<;>omega
theorem Gok.valence_bd {g:G}(h:Gok g)(v:Int)(k:Nat)(hk:k≤g.n.toNat):0≤sumTo (valTerm g v) k∧sumTo (valTerm g v) k≤600:=by
 have h1:=sumTo_bd (valTerm g v) 50 (h.valTerm_bd v) k;have:=h.n;omega
theorem Gok.code {g:G}(h:Gok g):∀k:Nat,k<g.es.length→(k:Int)≤(g.es[k]?.getD default).a*12+(g.es[k]?.getD default).b
 |0,hk=>by have:=h.ends 0 hk;omega
 |k+1,hk=>by
  have h1:=h.code k (by omega);have h2:=h.ends k (by omega);have h3:=h.ends (k+1) hk;have h4:=h.edge (k+1) hk;have hn:=h.n;unfold edgeErr at h4;simp only[Nat.add_sub_cancel]at h4;generalize g.es[k]?.getD default=y at*
  generalize g.es[k+1]?.getD default=x at*
  grind
theorem Gok.len {g:G}(h:Gok g):g.es.length≤144:=by
 rcases Nat.eq_zero_or_pos g.es.length with h0|h0
 ·omega
 ·have h1:=h.code (g.es.length-1) (by omega)
  have h2:=h.ends (g.es.length-1) (by omega);have hn:=h.n;omega
def endsOf (es:List E):List (Int×Int):=es.flatMap fun x=>List.replicate x.m.toNat (x.a,x.b)
def pairCells (ps:List (Int×Int)):List Value:=ps.flatMap fun p=>[.int .i64 p.1,.int .i64 p.2]
theorem endsOf_append (a b:List E):endsOf (a++b)=endsOf a++endsOf b:=by simp[endsOf]
theorem endsOf_len:∀(es:List E) (c:Nat),(∀ x∈es,x.m≤c)→(endsOf es).length≤es.length*c
 |[],_,_=>by simp[endsOf]
 |x::es,c,h=>by
  have h1:=endsOf_len es c fun y hy=>h y (by simp[hy]);have h2:=h x (by simp);simp only[endsOf,List.flatMap_cons,List.length_append,List.length_replicate,List.length_cons,Nat.add_mul]at*
  omega
theorem take_step {α:Type}[Inhabited α](l:List α)(k:Nat)(h:k<l.length):l.take (k+1)=l.take k++[l[k]?.getD default]:=by
 rw[List.take_succ_eq_append_getElem h];simp[h]
def rStp (g:G)(a b:Nat)(l:List Bool):List Bool:=if (l[a]?.getD false)&&decide (0<btw g a b)then l.set b true else l
def rB (g:G)(a:Nat):Nat→List Bool→List Bool
 |0,l=>l
 |k+1,l=>rStp g a k (rB g a k l)
def rA (g:G):Nat→List Bool→List Bool
 |0,l=>l
 |k+1,l=>rB g k g.n.toNat (rA g k l)
def rR (g:G):Nat→List Bool→List Bool
 |0,l=>l
 |k+1,l=>rA g g.n.toNat (rR g k l)
def reached (g:G)(v:Int):List Bool:=rR g g.n.toNat ((List.replicate g.n.toNat false).set v.toNat true)
theorem rStp_len (g:G)(a b:Nat)(l:List Bool):(rStp g a b l).length=l.length:=by unfold rStp;split<;>simp
theorem rB_len (g:G)(a:Nat)(l:List Bool):∀k,(rB g a k l).length=l.length
 |0=>rfl
 |k+1=>by rw[rB,rStp_len,rB_len g a l k]
theorem rA_len (g:G)(l:List Bool):∀k,(rA g k l).length=l.length
 |0=>rfl
 |k+1=>by rw[rA,rB_len,rA_len g l k]
theorem rR_len (g:G)(l:List Bool):∀k,(rR g k l).length=l.length
 |0=>rfl
 |k+1=>by rw[rR,rA_len,rR_len g l k]
theorem reached_len (g:G)(v:Int):(reached g v).length=g.n.toNat:=by simp[reached,rR_len]
def orTo (r:List Bool):Nat→List Bool→List Bool
 |0,s=>s
 |k+1,s=>(orTo r k s).set k (((orTo r k s)[k]?.getD false)||(r[k]?.getD false))
theorem orTo_len (r s:List Bool):∀k,(orTo r k s).length=s.length
 |0=>rfl
 |k+1=>by simp[orTo,orTo_len r s k]
def partsTo (g:G):Nat→Int×List Bool
 |0=>(0,List.replicate g.n.toNat false)
 |k+1=>if (partsTo g k).2[k]?.getD false then partsTo g k else((partsTo g k).1+1,orTo (reached g k) g.n.toNat (partsTo g k).2)
def parts (g:G):Int:=(partsTo g g.n.toNat).1
theorem partsTo_len (g:G):∀k,(partsTo g k).2.length=g.n.toNat
 |0=>by simp[partsTo]
 |k+1=>by unfold partsTo;split<;>simp[orTo_len,partsTo_len g k]
theorem partsTo_bd (g:G):∀k:Nat,0≤(partsTo g k).1∧(partsTo g k).1≤k
 |0=>by simp[partsTo]
 |k+1=>by have:=partsTo_bd g k;unfold partsTo;split<;>first|omega|(simp only;omega)
def rootedErr (g:G)(q:Int):Int:=if checkErr g≠0 then checkErr g else if parts g≠1 then 13 else if vtx g.n q then 0 else 2
def inB (k:Int):Bool:=decide (-1048576≤k)&&decide (k≤1048576)
def dErr (ds:List Int)(n:Int):Int:=if n<1∨12<n then 2 else if (ds.length:Int)≠n then 8 else if ds.all inB then 0 else 2
def anyFrom (f:Nat→Bool):Nat→Nat→Bool
 |_,0=>false
 |i,n+1=>if f i then true else anyFrom f (i+1) n
theorem anyFrom_step (f:Nat→Bool)(i n:Nat)(h:i<n):anyFrom f i (n-i)=if f i then true else anyFrom f (i+1) (n-(i+1)):=by
 obtain⟨k,rfl⟩:∃k,n=i+k+1:=⟨n-i-1,by omega⟩;rw[show i+k+1-i=k+1 by omega,show i+k+1-(i+1)=k by omega];rfl
theorem anyFrom_end (f:Nat→Bool)(i n:Nat)(h:n≤i):anyFrom f i (n-i)=false:=by
 rw[Nat.sub_eq_zero_of_le h];rfl
theorem anyFrom_iff (f:Nat→Bool):∀n i,anyFrom f i n=true↔∃k,i≤k∧k<i+n∧f k=true
 |0,i=>by simp[anyFrom];intro k h1 h2;omega
 |n+1,i=>by
  unfold anyFrom;split
  ·rename_i h;simp only[true_iff];exact⟨i,Nat.le_refl _,by omega,h⟩
  ·rename_i h
   rw[anyFrom_iff f n (i+1)];constructor
   ·rintro⟨k,h1,h2,h3⟩;exact⟨k,by omega,by omega,h3⟩
   ·rintro⟨k,h1,h2,h3⟩
    refine⟨k,?_,by omega,h3⟩;rcases Nat.eq_or_lt_of_le h1 with e|e
    ·subst e;exact absurd h3 h
    ·exact e
def debtAt (q:Int)(ds:List Int)(v:Nat):Bool:=decide ((v:Int)≠q)&&decide (ds[v]?.getD 0<0)
def cfgErr (g:G)(q:Int)(ds:List Int):Int:=
 if rootedErr g q≠0 then rootedErr g q else if dErr ds g.n≠0 then dErr ds g.n else if anyFrom (debtAt q ds) 0 g.n.toNat then 2 else 0
theorem rooted_ok {g:G}{q:Int}(h:rootedErr g q=0):Gok g∧0≤q∧q<g.n:=by
 unfold rootedErr at h;unfold Gok;by_cases hc:checkErr g=0
 ·refine⟨hc,?_⟩
  simp only[hc]at h;by_cases hp:parts g=1
  ·simp[hp]at h
   unfold vtx at h;simpa using h
  ·simp[hp]at h
 ·simp[hc]at h
theorem dErr_ok {ds:List Int}{n:Int}(h:dErr ds n=0):1≤n∧n≤12∧(ds.length:Int)=n∧∀k∈ds,-1048576≤k∧k≤1048576:=by
 unfold dErr at h;by_cases h1:n<1∨12<n
 ·simp[h1]at h
 by_cases h2:(ds.length:Int)=n
 ·rw[if_neg h1,if_neg (by simpa using h2)]at h
  by_cases h3:ds.all inB=true
  ·refine⟨by omega,by omega,h2,fun k hk=> ?_⟩
   have:=List.all_eq_true.1 h3 k hk;simpa[inB]using this
  ·simp[h3]at h
 ·rw[if_neg h1,if_pos h2]at h;omega
def PairsR (w:World)(v:Value)(ps:List (Int×Int)):Prop:=
 ∃a cap,v= .slice a ps.length cap∧ps.length≤cap∧cap≤9223372036854775807∧ps.length*16≤140737488355328∧CellsAt w a (pairCells ps)
theorem PairsR.below {w w':World}{v:Value}{ps:List (Int×Int)}(h:PairsR w v ps)(hb:Below w.heap.size w w'):PairsR w' v ps:=by
 obtain⟨a,cap,h1,h2,h3,h4,h5⟩:=h;exact⟨a,cap,h1,h2,h3,h4,h5.below hb⟩
theorem pairCells_get (ps:List (Int×Int)):∀k,k<ps.length→(pairCells ps)[k*2]? =some (.int .i64 (ps[k]?.getD (0,0)).1)∧(pairCells ps)[k*2+1]? =some (.int .i64 (ps[k]?.getD (0,0)).2):=by
 induction ps with
 |nil=>intro k hk;simp at hk
 |cons x ps ih=>
  intro k hk
  cases k with
  |zero=>simp[pairCells]
  |succ k=>
   have h:=ih k (by simpa using hk)
   have e:pairCells (x::ps)=[.int .i64 x.1,.int .i64 x.2]++pairCells ps:=rfl
   rw[e,List.getElem?_append_right (by simp;omega),List.getElem?_append_right (by simp;omega)]
   simp only[List.length_cons,List.length_nil,xI]
   rw[show (k+1)*2-(0+1+1)=k*2 by omega,show(k+1)*2+1-(0+1+1)=k*2+1 by omega]
   exact h
theorem owns_at {w:World}{base:Nat}{e:TypeId}{size:Nat}{v:Value}{n:Nat}{xs:List Value}(h:w.ownsRow base e size v n xs):
 ∃a cap,v= .slice a n cap∧n≤cap∧cap≤9223372036854775807∧CellsAt w a xs:=by
 have hx:=h.1;rcases h.2 with ⟨rfl,rfl⟩|⟨g,cap,cur,rfl,hb,hg,hn,hm,hs,ht⟩
 ·exact⟨none,0,rfl,Nat.le_refl _,by omega,.inl (List.eq_nil_of_length_eq_zero (by simpa using hx))⟩
 ·refine⟨some ⟨g,0,none⟩,cap,rfl,hn,by unfold maxLen at hm;omega,.inr ⟨g,0,rfl,(owns_lt h).2,fun i hi=> ?_⟩⟩
  have:=h.cellAt i (by rw[← hx];exact hi);rwa[Nat.zero_add]
theorem owns_ints {w:World}{base:Nat}{e:TypeId}{v:Value}{xs:List Int}(h:w.ownsRow base e 1 v xs.length (xs.map (Value.int .i64)))(hb:xs.length*8≤140737488355328):IntsR w v xs:=by
 obtain⟨a,cap,h1,h2,h3,h4⟩:=owns_at h;exact⟨a,cap,h1,h2,h3,hb,h4⟩
def vecOf (n:Nat)(f:Nat→Int):List Int:=(List.range n).map f
theorem vecOf_len (n:Nat)(f:Nat→Int):(vecOf n f).length=n:=by simp[vecOf]
theorem vecOf_get (n:Nat)(f:Nat→Int)(k:Nat)(hk:k<n):(vecOf n f)[k]?.getD 0=f k:=by simp[vecOf,hk]
theorem vecOf_set (n:Nat)(f:Nat→Int)(k:Nat)(x:Int):(vecOf n f).set k x=vecOf n (fun i=>if i=k then x else f i):=by
 apply List.ext_getElem?;intro i;rw[List.getElem?_set];unfold vecOf;by_cases hi:i<n
 ·by_cases e:k=i
  ·subst e;simp[hi]
  ·have e':¬i=k:=fun h=>e h.symm
   simp[e,e',hi]
 ·by_cases e:k=i
  ·subst e;simp[hi]
  ·simp[e,hi]
theorem vecOf_congr (n:Nat)(f g:Nat→Int)(h:∀k,k<n→f k=g k):vecOf n f=vecOf n g:=by
 unfold vecOf;exact List.map_congr_left fun k hk=>h k (List.mem_range.1 hk)
theorem vecOf_self (ds:List Int):vecOf ds.length (fun i=>ds[i]?.getD 0)=ds:=by
 apply List.ext_getElem?;intro i;unfold vecOf;by_cases hi:i<ds.length<;>simp[hi]
def waitTo (p:Nat→Bool)(k:Nat):List Int:=((List.range k).filter p).map fun v:Nat=>(v:Int)
theorem waitTo_mem (p:Nat→Bool)(k:Nat)(x:Int)(h:x∈waitTo p k):0≤x∧x<k∧p x.toNat=true:=by
 unfold waitTo at h;obtain⟨v,hv,rfl⟩:=List.mem_map.1 h;obtain⟨h1,h2⟩:=List.mem_filter.1 hv;have:=List.mem_range.1 h1;exact⟨by omega,by omega,by simpa using h2⟩
theorem wpList_app1 {P:Program}(wr:World){ops:Array Oper}{rest:List Oper}{o:Oper}{a:Act}{Q:Exit→Act→World→Prop}
 (hgd:o.guard=none) (s xop:Operand) (t:TypeId) (ho:o.op= .call {callee:= .builtin .append,args:= #[s,xop],argTypes:= #[t,t]})
 (e:TypeId) (ht:P.underlying t=some (.slice e)) (hinfo:(P.info? e).map (fun i=>(i.zero,i.size,i.bytes))=some (some (.int .i64 0),1,8))
 (base:Nat) (v:Value) (xs:List Int) (hown:wr.ownsRow base e 1 v xs.length (xs.map (Value.int .i64))) (x:Int) (B:Nat) (hBs:B=wr.heap.size)
 (hs:a.eval s=v) (hx:a.eval xop= .slice (some ⟨B,0,none⟩) 1 1) (hlen:xs.length≤1000000000000) (hbase:base≤wr.heap.size)
 (h:∀v' w',w'.ownsRow base e 1 v' (xs++[x]).length ((xs++[x]).map (Value.int .i64))→wr.grownBy w' v.ownBlock→(∀ k,v.ownBlock=some k→base≤k)→wpList P ops Q rest (a.put o.dst v') w'):
 wpList P ops Q (o::rest) a (wr.alloc (.cells #[.int .i64 x] e)):=by
 obtain⟨i,hi,hz,hsz,hby⟩:=info_parts hinfo;subst hBs;refine wpList_append_own _ hgd s xop t ho base e i (.int .i64 0) 1 8 ht hi hz hsz hby rfl (by decide) v xs.length _ hs (hown.alloc _) ⟨wr.heap.size,0,none⟩ 1 1 [.int .i64 x] hx rfl (cell_one_new _ _ _) (by simp[Value.oneCell']) (by unfold maxLen;omega) (by omega) (by simp;omega) ?_;intro v' w' hown' hgr _;refine h v' w' ?_ ?_ (fun k hk=>(hown.lt k hk).1)
 ·simpa using hown'
 ·refine⟨hgr.os,hgr.tape,hgr.output,by have:=hgr.size;simp at this;omega,fun k hk hne=> ?_⟩
  rw[hgr.block k (by simp;omega) hne];exact Below.heap_alloc _ _ _ hk
theorem below_grown {B base:Nat}{W w w':World}{v:Value}(hB:Below B W w)(hs:B≤w.heap.size)(hg:w.grownBy w' v.ownBlock)(hb:∀k,v.ownBlock=some k→base≤k)(hbb:B≤base):Below B W w':=
 hB.grown hg hs fun k hk=>Nat.le_trans hbb (hb k hk)
theorem below_dN {B:Nat}{W w:World}(h:Below B W w)(n:Nat):Below B W (w.drewN n):=h.trans ⟨rfl,rfl,rfl,Nat.le_refl _,fun _ _=>rfl⟩
theorem owns_dN {w:World}{base:Nat}{e:TypeId}{size:Nat}{v:Value}{m:Nat}{xs:List Value}(h:w.ownsRow base e size v m xs)(n:Nat):(w.drewN n).ownsRow base e size v m xs:=h
theorem CellsAt.news {w:World}{b off:Nat}{cs:List Value}(h:CellsAt w (some ⟨b,off,none⟩) cs)(j:Nat)(u:Value)(hj:cs[j]? =some u):w.cell? ((⟨b,off,none⟩:Addr).add j)=some u:=by
 rcases h with h|⟨b',off',e,hl,hc⟩
 ·subst h;simp at hj
 ·simp only[Option.some.injEq,Addr.mk.injEq,and_true]at e
  obtain⟨rfl,rfl⟩:=e;have hlt:j<cs.length:=(List.getElem?_eq_some_iff.1 hj).1;have e2:(⟨b,off,none⟩:Addr).add j=⟨b,off+j,none⟩:=by unfold Addr.add;split<;>simp_all
  rw[e2,hc j hlt];exact hj
theorem wpList_clone {P:Program}(wr:World){ops:Array Oper}{rest:List Oper}{o:Oper}{a:Act}{Q:Exit→Act→World→Prop}
 (hgd:o.guard=none) (s xop:Operand) (t:TypeId) (ho:o.op= .call {callee:= .builtin .append,args:= #[s,xop],argTypes:= #[t,t]})
 (e:TypeId) (ht:P.underlying t=some (.slice e)) (hinfo:(P.info? e).map (fun i=>(i.zero,i.size,i.bytes))=some (some (.int .i64 0),1,8))
 (B:Nat) (hBs:B=wr.heap.size) (b off cap:Nat) (xs:List Int) (hxs:CellsAt wr (some ⟨b,off,none⟩) (xs.map (Value.int .i64))) (hlen:xs.length*8≤140737488355328)
 (hs:a.eval s= .slice (some ⟨B,0,none⟩) 0 0) (hx:a.eval xop= .slice (some ⟨b,off,none⟩) xs.length cap)
 (h:∀v' w',w'.ownsRow B e 1 v' xs.length (xs.map (Value.int .i64))→Below wr.heap.size wr w'→(v'= .slice none 0 0↔False)→wpList P ops Q rest (a.put o.dst v') w'):
 wpList P ops Q (o::rest) a (wr.alloc (.cells #[] e)):=by
 obtain⟨i,hi,hz,hsz,hby⟩:=info_parts hinfo;subst hBs;have hown:=World.ownsRow_made (base:=wr.heap.size) (e:=e) (size:=1) wr #[] 0 (Nat.le_refl _) (Nat.zero_le _) rfl;have hB:Below wr.heap.size wr (wr.alloc (.cells #[] e)):=(Below.refl _ _).alloc (Nat.le_refl _) _
 refine wpList_append_own _ hgd s xop t ho wr.heap.size e i (.int .i64 0) 1 8 ht hi hz hsz hby rfl (by decide) _ 0 [] hs hown ⟨b,off,none⟩ xs.length cap (xs.map (Value.int .i64)) hx (by simp)
  (fun j u hj=>(hxs.below hB).news j u hj) (ints_oneCell' xs) (by unfold maxLen;omega) (by omega) (by simp) ?_
 intro v' w' hown' hgr hnil;refine h v' w' (by simpa using hown') ?_ (by simpa using hnil);exact hB.grown hgr (by simp) (fun k hk=>by simp[Value.ownBlock]at hk;omega)
theorem owns_some {w:World}{base:Nat}{e:TypeId}{size:Nat}{v:Value}{n:Nat}{xs:List Value}(h:w.ownsRow base e size v n xs)(hn:0<n):∃g cap,v= .slice (some ⟨g,0,none⟩) n cap∧base≤g∧g<w.heap.size:=by
 rcases h.2 with ⟨rfl,rfl⟩|⟨g,cap,cur,rfl,hb,_⟩
 ·omega
 ·exact⟨g,cap,rfl,hb,(owns_lt h).2⟩
theorem vecOf_zero (n:Nat):List.replicate n (0:Int)=vecOf n (fun _=>0):=by apply List.ext_getElem<;>simp[vecOf]
theorem owns_elem {w:World}{base:Nat}{e:TypeId}{size g n cap:Nat}{xs:List Value}(h:w.ownsRow base e size (.slice (some ⟨g,0,none⟩) n cap) n xs):∃cur,w.heap[g]? =some (.cells cur e (0,0)):=by
 rcases h.2 with ⟨h',_⟩|⟨g',cap',cur,h',_,hg,_⟩
 ·simp at h'
 ·simp only[Value.slice.injEq,Option.some.injEq,Addr.mk.injEq,and_true,true_and]at h'
  obtain⟨rfl,_⟩:=h';exact⟨cur,hg⟩
theorem owns_differ {w:World}{base base':Nat}{e e':TypeId}{size size' g g' n cap n' cap':Nat}{xs xs':List Value}(h:w.ownsRow base e size (.slice (some ⟨g,0,none⟩) n cap) n xs)
 (h':w.ownsRow base' e' size' (.slice (some ⟨g',0,none⟩) n' cap') n' xs') (hne:e≠e'):g≠g':=by
 rintro rfl;obtain⟨c,hc⟩:=owns_elem h;obtain⟨c',hc'⟩:=owns_elem h';rw[hc]at hc';simp at hc';exact hne hc'.2
structure OwnM (T1 T0:TypeId)(w:World)(base:Nat)(v:Value)(N k:Nat)(bs:Nat→Nat)(f:Nat→Nat→Int):Prop where
 outer:w.ownsRow base T1 1 v k ((List.range k).map fun i=>Value.slice (some ⟨bs i,0,none⟩) N N)
 inj:∀i j,i<k→j<k→bs i=bs j→i=j
 row:∀i,i<k→w.ownsRow base T0 1 (.slice (some ⟨bs i,0,none⟩) N N) N ((vecOf N (f i)).map (Value.int .i64))
section
variable {T1 T0 : TypeId} {w w' : World} {base : Nat} {v : Value} {g cap N k : Nat} {bs : Nat → Nat} {f : Nat → Nat → Int}
theorem OwnM.kept (h:OwnM T1 T0 w base v N k bs f){r:Option Nat}(hg:w.grownBy w' r)(ho:v.ownBlock=none∨v.ownBlock≠r)(hr:∀i,i<k→r≠some (bs i)):OwnM T1 T0 w' base v N k bs f:=
 ⟨h.outer.kept hg ho,h.inj,fun i hi=>(h.row i hi).kept hg (.inr (by simpa[Value.ownBlock]using fun e=>hr i hi e.symm))⟩
theorem OwnM.below (h:OwnM T1 T0 w base v N k bs f)(hB:Below w.heap.size w w'):OwnM T1 T0 w' base v N k bs f:=
 ⟨owns_below h.outer hB,h.inj,fun i hi=>owns_below (h.row i hi) hB⟩
theorem OwnM.zero (T1 T0:TypeId)(w:World)(base N:Nat)(bs:Nat→Nat)(f:Nat→Nat→Int):OwnM T1 T0 w base (.slice none 0 0) N 0 bs f:=
 ⟨World.ownsRow_nil _ _ _ _,fun i j hi=>by omega,fun i hi=>by omega⟩
theorem OwnM.lt (h:OwnM T1 T0 w base v N k bs f)(i:Nat)(hi:i<k):base≤bs i∧bs i<w.heap.size:=owns_lt (h.row i hi)
theorem OwnM.at (h:OwnM T1 T0 w base (.slice (some ⟨g,0,none⟩) k cap) N k bs f)(i:Nat)(hi:i<k):w.cell? ⟨g,i,none⟩=some (.slice (some ⟨bs i,0,none⟩) N N):=by
 rw[h.outer.cellAt i (by omega)];simp[hi]
theorem OwnM.cell (h:OwnM T1 T0 w base v N k bs f)(i j:Nat)(hi:i<k)(hj:j<N):w.cell? ⟨bs i,j,none⟩=some (.int .i64 (f i j)):=by
 rw[owns_int (h.row i hi) j hj,vecOf_get _ _ _ hj]
theorem OwnM.frozen (h:OwnM T1 T0 w base v N k bs f)(i j:Nat)(hi:i<k):w.frozen? ⟨bs i,j,none⟩=false:=(h.row i hi).frozenAt j
theorem OwnM.apart (h:OwnM T1 T0 w base (.slice (some ⟨g,0,none⟩) k cap) N k bs f)(hT:T1≠T0)(i:Nat)(hi:i<k):g≠bs i:=owns_differ h.outer (h.row i hi) hT
theorem OwnM.blk (h:OwnM T1 T0 w base v N k bs f)(hT:T1≠T0)(i:Nat)(hi:i<k):v.ownBlock≠some (bs i):=by
 intro e;obtain⟨g,cap,rfl,_⟩:=owns_some h.outer (by omega);simp only[Value.ownBlock,Option.some.injEq]at e;exact h.apart hT i hi e
theorem OwnM.set (h:OwnM T1 T0 w base (.slice (some ⟨g,0,none⟩) k cap) N k bs f)(hT:T1≠T0)(i j:Nat)(hi:i<k)(x:Int):
 OwnM T1 T0 (w.setCell ⟨bs i,j,none⟩ (.int .i64 x)) base (.slice (some ⟨g,0,none⟩) k cap) N k bs (fun i' j'=>if i'=i∧j'=j then x else f i' j'):=by
 refine⟨owns_other h.outer (h.apart hT i hi) _ _,h.inj,fun i' hi'=> ?_⟩;by_cases e:i'=i
 ·subst e
  have h1:=owns_set (f:=Value.int .i64) (h.row i' hi) j x;rw[vecOf_set]at h1;have h2:vecOf N (fun q=>if q=j then x else f i' q)=vecOf N (fun j'=>if i'=i'∧j'=j then x else f i' j'):=vecOf_congr _ _ _ fun q _=>by simp
  rw[h2]at h1;exact h1
 ·have h1:=owns_other (h.row i' hi') (fun e2=>e (h.inj i' i hi' hi e2)) j (.int .i64 x)
  have h2:vecOf N (f i')=vecOf N (fun j'=>if i'=i∧j'=j then x else f i' j'):=vecOf_congr _ _ _ fun q _=>by simp[e]
  rw[h2]at h1;exact h1
theorem OwnM.congr (h:OwnM T1 T0 w base v N k bs f)(f':Nat→Nat→Int)(he:∀i j,i<k→j<N→f i j=f' i j):OwnM T1 T0 w base v N k bs f':=
 ⟨h.outer,h.inj,fun i hi=>by rw[← vecOf_congr N (f i) (f' i) (fun j hj=>he i j hi hj)];exact h.row i hi⟩
theorem OwnM.snoc {v':Value}{b:Nat}(h:OwnM T1 T0 w base v N k bs f)
 (hnew:w'.ownsRow base T0 1 (.slice (some ⟨b,0,none⟩) N N) N ((vecOf N (f k)).map (Value.int .i64))) (hb:∀i,i<k→bs i≠b)
 (hout:w'.ownsRow base T1 1 v' (k+1) (((List.range k).map fun i=>Value.slice (some ⟨bs i,0,none⟩) N N)++[.slice (some ⟨b,0,none⟩) N N]))
 (hrow:∀i,i<k→w'.ownsRow base T0 1 (.slice (some ⟨bs i,0,none⟩) N N) N ((vecOf N (f i)).map (Value.int .i64))):
 OwnM T1 T0 w' base v' N (k+1) (fun i=>if i<k then bs i else b) f:=by
 refine⟨?_,fun i j hi hj e=> ?_,fun i hi=> ?_⟩
 ·have e:((List.range (k+1)).map fun i=>Value.slice (some ⟨if i<k then bs i else b,0,none⟩) N N)=((List.range k).map fun i=>Value.slice (some ⟨bs i,0,none⟩) N N)++[.slice (some ⟨b,0,none⟩) N N]:=by
   rw[List.range_succ,List.map_append];congr 1
   ·exact List.map_congr_left fun i hi=>by rw[if_pos (List.mem_range.1 hi)]
   ·simp
  rw[e];exact hout
 ·by_cases h1:i<k
  ·by_cases h2:j<k
   ·rw[if_pos h1,if_pos h2]at e;exact h.inj i j h1 h2 e
   ·rw[if_pos h1,if_neg h2]at e;exact absurd e (hb i h1)
  ·by_cases h2:j<k
   ·rw[if_neg h1,if_pos h2]at e;exact absurd e.symm (hb j h2)
   ·omega
 ·by_cases h1:i<k
  ·rw[if_pos h1];exact hrow i h1
  ·rw[if_neg h1]
   obtain rfl:i=k:=by omega
   exact hnew
end
def zer (N:Nat):Array Value:=(List.replicate N (Value.int .i64 0)).toArray
theorem owns_zer {w:World}{B N:Nat}{e:TypeId}(base:Nat)(h:w.heap[B]? =some (.cells (zer N) e (0,0)))(hb:base≤B)(hN:N≤1000):w.ownsRow base e 1 (.slice (some ⟨B,0,none⟩) N N) N ((vecOf N fun _=>0).map (Value.int .i64)):=by
 refine⟨by simp[vecOf],.inr ⟨B,N,zer N,rfl,hb,h,Nat.le_refl _,by unfold maxLen;omega,by simp[zer],?_⟩⟩;rw[← vecOf_zero];simp[zer,List.take_of_length_le]
theorem run_zer {P:Program}(t e:TypeId)(ht:P.underlying t=some (.slice e))(hinfo:(P.info? e).map (fun i=>(i.zero,i.size,i.bytes))=some (some (.int .i64 0),1,8))
 (n:Int) (N:Nat) (h1:(N:Int)≤n) (h2:n≤(N:Int)) (h3:N≤1000) (w:World):
 (Instr.makeSlice t (.int .i64 n) (.int .i64 n)).run P w= .ok (.slice (some ⟨w.heap.size,0,none⟩) N N) (w.alloc (.cells (zer N) e)):=by
 obtain⟨i,hi,hz,hs,hby⟩:=info_parts hinfo;obtain rfl:n=(N:Int):=by omega
 have h:=run_make (P:=P) w t e i (.int .i64 0) ht hi hz .i64 .i64 N N (by omega) (Int.le_refl _) (by rw[hby];omega) (by omega);rw[hs]at h;simp only[Int.toNat_natCast,Nat.mul_one]at h;have e1:madeCells (Value.int .i64 0).cells N=zer N:=by
  apply Array.toList_inj.1;rw[show (Value.int .i64 0).cells= #[Value.int .i64 0]from rfl,toList_madeCells_one];simp[zer]
 rw[e1]at h;exact h
theorem heap_new (w:World)(o:Obj):(w.alloc o).heap[w.heap.size]? =some o:=by show(w.heap.push o)[w.heap.size]? =_;simp
theorem heap_old (w:World)(o:Obj)(k:Nat)(h:k<w.heap.size):(w.alloc o).heap[k]? =w.heap[k]? :=Below.heap_alloc w o k h
def rowsF (g:G)(v w:Nat):Int:=if v≠w then btw g v w else 0
structure St where
 L:Nat→Int
 T:Nat→Int
def isUnst (g:G)(q:Int)(L:Nat→Int)(v:Nat):Bool:=decide ((v:Int)≠q)&&decide (valence g v≤L v)
def waitN (g:G)(q:Int)(N:Nat)(L:Nat→Int):List Int:=waitTo (isUnst g q L) N
def maxF:Nat:=1048576
theorem maxF_eq:(maxF:Int)=1048576:=rfl
def okS (N:Nat)(c:Int)(i:Nat)(s:St):Prop:=(∀ u,u<N→ -(c+700*i)≤s.L u∧s.L u≤c+700*i)∧∀u,u<N→0≤s.T u∧s.T u≤i
theorem rowsF_bd {g:G}(hg:Gok g)(v u:Nat):0≤rowsF g v u∧rowsF g v u≤50:=by
 have:=hg.btw_bd v u;unfold rowsF;split<;>omega
theorem val_bd {g:G}(hg:Gok g)(v:Int):0≤valence g v∧valence g v≤600:=hg.valence_bd v _ (Nat.le_refl _)
def RetTri (T0:TypeId)(w:World)(N:Nat)(r:Int⊕St)(e:Ending)(w':World):Prop:=
 Below w.heap.size w w'∧match r with
 | .inl k=>e= .returned (.tuple #[.slice none 0 0,.slice none 0 0,.int .i64 k])
 | .inr s=>∃b1 c1 b2 c2,e= .returned (.tuple #[.slice (some ⟨b1,0,none⟩) N c1,.slice (some ⟨b2,0,none⟩) N c2,.int .i64 0])∧
    w'.ownsRow w.heap.size T0 1 (.slice (some ⟨b1,0,none⟩) N c1) N ((vecOf N s.L).map (Value.int .i64))∧
    w'.ownsRow w.heap.size T0 1 (.slice (some ⟨b2,0,none⟩) N c2) N ((vecOf N s.T).map (Value.int .i64))
theorem cfg_ok {g:G}{q:Int}{ds:List Int}(h:cfgErr g q ds=0):Gok g∧0≤q∧q<g.n∧(ds.length:Int)=g.n∧(∀ k∈ds,-1048576≤k∧k≤1048576)∧∀v:Nat,v<ds.length→(v:Int)≠q→0≤ds[v]?.getD 0:=by
 unfold cfgErr at h;by_cases h1:rootedErr g q=0
 ·rw[if_neg (by simpa using h1)]at h
  by_cases h2:dErr ds g.n=0
  ·rw[if_neg (by simpa using h2)]at h
   obtain⟨hg,hq0,hqn⟩:=rooted_ok h1;obtain⟨_,_,hl,hb⟩:=dErr_ok h2;refine⟨hg,hq0,hqn,hl,hb,fun v hv hne=> ?_⟩;by_cases h3:anyFrom (debtAt q ds) 0 g.n.toNat=true
   ·rw[if_pos h3]at h;omega
   ·have:=mt (anyFrom_iff (debtAt q ds) g.n.toNat 0).2 h3
    apply Int.not_lt.1;intro hlt;exact this ⟨v,Nat.zero_le _,by omega,by unfold debtAt;simp[hne,hlt]⟩
  ·rw[if_pos h2]at h;exact absurd h h2
 ·rw[if_pos h1]at h;exact absurd h h1
def Blk (w:World)(b:Nat)(cs:Array Value)(t:TypeId):Prop:=w.heap[b]? =some (.cells cs t (0,0))
section
variable {w w' : World} {b : Nat} {cs : Array Value} {t : TypeId}
theorem Blk.cell (h:Blk w b cs t)(k:Nat):w.cell? ⟨b,k,none⟩=cs[k]? :=by
 unfold Blk at h;simp[World.cell?,h]
theorem Blk.frozen (h:Blk w b cs t)(k:Nat):w.frozen? ⟨b,k,none⟩=false:=by
 unfold Blk at h;simp[World.frozen?,h]
theorem Blk.lt (h:Blk w b cs t):b<w.heap.size:=(Array.getElem?_eq_some_iff.1 h).1
theorem Blk.set (h:Blk w b cs t)(k:Nat)(v:Value):Blk (w.setCell ⟨b,k,none⟩ v) b (cs.setIfInBounds k v) t:=by
 unfold Blk at*
 simp[World.setCell,Array.getElem?_modify,h]
theorem Blk.other (h:Blk w b cs t){g:Nat}(hne:b≠g)(k:Nat)(v:Value):Blk (w.setCell ⟨g,k,none⟩ v) b cs t:=by
 unfold Blk at*
 rw[Below.heap_setCell _ _ _ _ hne];exact h
theorem Blk.below (h:Blk w b cs t)(hB:Below w.heap.size w w'):Blk w' b cs t:=by
 have:=hB.block b h.lt;unfold Blk at*
 rw[this];exact h
theorem Blk.grown (h:Blk w b cs t){row:Option Nat}(hg:w.grownBy w' row)(hne:row≠some b):Blk w' b cs t:=by
 have:=hg.block b h.lt (fun e=>hne e.symm);unfold Blk at*
 rw[this];exact h
theorem Blk.alloc (h:Blk w b cs t)(o:Obj):Blk (w.alloc o) b cs t:=by
 have:=heap_old w o b h.lt;unfold Blk at*
 rw[this];exact h
theorem Blk.new (w:World)(cs:Array Value)(t:TypeId):Blk (w.alloc (.cells cs t)) w.heap.size cs t:=heap_new w _
theorem Blk.drew (h:Blk w b cs t):Blk w.drew b cs t:=h
theorem Blk.owns (_h:Blk w b cs t){base:Nat}{e:TypeId}{size:Nat}{v:Value}{n:Nat}{xs:List Value}(ho:w.ownsRow base e size v n xs)(hne:v.ownBlock≠some b)(k:Nat)(u:Value):
 (w.setCell ⟨b,k,none⟩ u).ownsRow base e size v n xs:=ho.kept (grown_set w b k u) (.inr hne)
end
theorem sumTo_congr (f h:Nat→Int):∀n,(∀ k,k<n→f k=h k)→sumTo f n=sumTo h n
 |0,_=>rfl
 |n+1,e=>by unfold sumTo;rw[sumTo_congr f h n (fun k hk=>e k (by omega)),e n (by omega)]
theorem sumTo_one (x:Int)(v:Nat):∀n,sumTo (fun w=>if w=v then x else 0) n=if v<n then x else 0
 |0=>by simp[sumTo]
 |n+1=>by
  unfold sumTo;rw[sumTo_one x v n];by_cases h1:v<n
  ·rw[if_pos h1,if_neg (by omega),if_pos (by omega)];omega
  ·rw[if_neg h1]
   by_cases h2:n=v
   ·rw[if_pos h2,if_pos (by omega)];omega
   ·rw[if_neg h2,if_neg (by omega)];omega
theorem btw_comm (g:G)(u v:Int):btw g u v=btw g v u:=by unfold btw;rw[Int.min_comm,Int.max_comm]
def dOf (ds:List Int):Nat→Int:=fun u=>ds[u]?.getD 0
def rt (F:Nat→Nat):Nat→Nat→Nat
 |0,v=>v
 |n+1,v=>if F v=v then v else rt F n (F v)
def root (F:Nat→Nat)(v:Nat):Nat:=rt F v v
theorem rt_fuel (F:Nat→Nat)(hF:∀v,F v≤v):∀m x,x≤m→rt F m x=rt F x x:=by
 intro m;induction m using Nat.strongRecOn with
 |ind m ih=>
  intro x hx
  cases x with
  |zero=>
   cases m with
   |zero=>rfl
   |succ m=>unfold rt;rw[if_pos (by have:=hF 0;omega)]
  |succ x=>
   cases m with
   |zero=>omega
   |succ m=>
    unfold rt
    by_cases h:F (x+1)=x+1
    ·rw[if_pos h,if_pos h]
    ·rw[if_neg h,if_neg h]
     have h2:=hF (x+1);rw[ih m (by omega) _ (by omega),ih x (by omega) _ (by omega)]
theorem root_fix {F:Nat→Nat}{v:Nat}(h:F v=v):root F v=v:=by
 unfold root;cases v with
 |zero=>rfl
 |succ v=>unfold rt;rw[if_pos h]
theorem root_step {F:Nat→Nat}(hF:∀v,F v≤v)(v:Nat):root F v=root F (F v):=by
 by_cases h:F v=v
 ·rw[h]
 ·have h2:=hF v
  unfold root;cases v with
  |zero=>omega
  |succ v=>
   rw[rt,if_neg h,rt_fuel F hF v _ (by omega)]
theorem root_le {F:Nat→Nat}(hF:∀v,F v≤v)(v:Nat):root F v≤v:=by
 induction v using Nat.strongRecOn with
 |ind v ih=>
  by_cases h:F v=v
  ·rw[root_fix h];exact Nat.le_refl _
  ·have h2:=hF v
   rw[root_step hF];have:=ih (F v) (by omega);omega
theorem root_root {F:Nat→Nat}(hF:∀v,F v≤v)(v:Nat):F (root F v)=root F v:=by
 induction v using Nat.strongRecOn with
 |ind v ih=>
  by_cases h:F v=v
  ·rw[root_fix h];exact h
  ·have h2:=hF v
   rw[root_step hF];exact ih (F v) (by omega)
def joinF (F:Nat→Nat)(a b:Nat):Nat→Nat:=fun v=>if v=max (root F a) (root F b)then min (root F a) (root F b)else F v
theorem joinF_le {F:Nat→Nat}(hF:∀v,F v≤v)(a b:Nat):∀v,joinF F a b v≤v:=by
 intro v;unfold joinF;split
 ·omega
 ·exact hF v
def forestTo (g:G):Nat→Nat→Nat
 |0=>fun v=>v
 |k+1=>joinF (forestTo g k) (g.es[k]?.getD default).a.toNat (g.es[k]?.getD default).b.toNat
theorem forestTo_le (g:G):∀k v,forestTo g k v≤v
 |0,v=>Nat.le_refl _
 |k+1,v=>joinF_le (forestTo_le g k) _ _ v
def fArr (F:Nat→Nat):Array Value:= #[.int .i64 (F 0),.int .i64 (F 1),.int .i64 (F 2),.int .i64 (F 3),.int .i64 (F 4),.int .i64 (F 5),.int .i64 (F 6),.int .i64 (F 7),.int .i64 (F 8),.int .i64 (F 9),.int .i64 (F 10),.int .i64 (F 11)]
theorem fArr_get (F:Nat→Nat)(i:Nat)(h:i<12):(fArr F)[i]? =some (.int .i64 (F i)):=by
 unfold fArr;rcases i with _|_|_|_|_|_|_|_|_|_|_|_|i<;>first|rfl|omega
theorem fArr_set (F:Nat→Nat)(i x:Nat)(h:i<12):(fArr F).setIfInBounds i (.int .i64 (x:Int))=fArr (fun v=>if v=i then x else F v):=by
 unfold fArr;rcases i with _|_|_|_|_|_|_|_|_|_|_|_|i<;>first|rfl|omega
theorem owns_blk {w:World}{b:Nat}{cs:Array Value}{T e:TypeId}{base size n:Nat}{v:Value}{xs:List Value}(h:Blk w b cs T)(ho:w.ownsRow base e size v n xs)(hT:T≠e):∀k,v.ownBlock=some k→k≠b:=by
 rintro k hk rfl;rcases ho.2 with ⟨h0,_⟩|⟨g,cap,cur,h0,_,hh,_⟩
 ·rw[h0]at hk;cases hk
 ·rw[h0]at hk
  obtain rfl:g=k:=Option.some.inj hk;unfold Blk at h;rw[h]at hh;injection hh with hh
  injection hh with _ h2
  exact hT h2
end Go.Proofs.YtclgllmipcbagaaGreatDoor
