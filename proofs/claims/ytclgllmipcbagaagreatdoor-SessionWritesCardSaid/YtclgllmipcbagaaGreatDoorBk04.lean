/-
  Parts of the proof: XSpec11 XP7 XP10 XP13 XP17 XP31
-/
import Derived.Test.YtclgllmipcbagaaGreatDoorBk03
import Derived.Lib.SliceRun
import Derived.Shelf.Slices.Delete
import Derived.Lib.OwnBridge
import Derived.Laws.CopyOwn
import Derived.Deep.DeepCutAuto
import Derived.Deep.RegionHeld3
import Derived.Deep.AppendLies
import Derived.Test.YtclgllmipcbagaaGreatDoorBk02
namespace Go.Proofs.YtclgllmipcbagaaGreatDoor
set_option linter.unusedVariables false
set_option linter.unusedSimpArgs false
set_option maxRecDepth 100000
set_option maxHeartbeats 16000000
open Go.RowKit
def sumE (f:E→Int):List E→Int
 |[]=>0
 |x::l=>f x+sumE f l
theorem sumE_append (f:E→Int):∀a b:List E,sumE f (a++b)=sumE f a+sumE f b
 |[],b=>by simp[sumE]
 |x::a,b=>by simp only[List.cons_append,sumE,sumE_append f a b];omega
theorem sumE_congr (f h:E→Int):∀l:List E,(∀ x∈l,f x=h x)→sumE f l=sumE h l
 |[],_=>rfl
 |x::l,e=>by unfold sumE;rw[sumE_congr f h l (fun y hy=>e y (by simp[hy])),e x (by simp)]
theorem sumE_zero:∀l:List E,sumE (fun _=>0) l=0
 |[]=>rfl
 |x::l=>by unfold sumE;rw[sumE_zero l];rfl
theorem sumE_bd (f:E→Int)(c:Int):∀l:List E,(∀ x∈l,0≤f x∧f x≤c)→0≤sumE f l∧sumE f l≤l.length*c
 |[],_=>by simp[sumE]
 |x::l,h=>by
  have h1:=sumE_bd f c l fun y hy=>h y (by simp[hy]);have h2:=h x (by simp);unfold sumE;have:((x::l).length:Int)*c=l.length*c+c:=by simp[Int.add_mul]
  omega
theorem sumE_sumTo (f:Nat→E→Int)(n:Nat):∀l:List E,sumTo (fun k=>sumE (f k) l) n=sumE (fun x=>sumTo (fun k=>f k x) n) l:=by
 intro l;induction n with
 |zero=>simp only[sumTo];rw[sumE_zero]
 |succ n ih=>
  simp only[sumTo]
  rw[ih]
  clear ih
  induction l with
  |nil=>rfl
  |cons x l ih2=>simp only[sumE];omega
def rowE (v u:Nat)(x:E):Int:=if x.a=x.b then 0 else if x.a=v then(if x.b=u then x.m else 0)else if x.b=v then(if x.a=u then x.m else 0)else 0
def valE (u:Nat)(x:E):Int:=if x.a=x.b then 0 else(if x.a=u then x.m else 0)+(if x.b=u then x.m else 0)
def rowTo (g:G)(v k u:Nat):Int:=sumE (rowE v u) (g.es.take k)
def valTo (g:G)(k u:Nat):Int:=sumE (valE u) (g.es.take k)
theorem rowTo_zero (g:G)(v u:Nat):rowTo g v 0 u=0:=by simp[rowTo,sumE]
theorem valTo_zero (g:G)(u:Nat):valTo g 0 u=0:=by simp[valTo,sumE]
theorem rowTo_step (g:G)(v k u:Nat)(h:k<g.es.length):rowTo g v (k+1) u=rowTo g v k u+rowE v u (g.es[k]?.getD default):=by
 unfold rowTo;rw[take_step _ _ h,sumE_append];simp[sumE]
theorem valTo_step (g:G)(k u:Nat)(h:k<g.es.length):valTo g (k+1) u=valTo g k u+valE u (g.es[k]?.getD default):=by
 unfold valTo;rw[take_step _ _ h,sumE_append];simp[sumE]
theorem Gok.code_lt {g:G}(h:Gok g)(i:Nat):∀j,i<j→j<g.es.length→(g.es[i]?.getD default).a*12+(g.es[i]?.getD default).b<(g.es[j]?.getD default).a*12+(g.es[j]?.getD default).b
 |0,h1,_=>by omega
 |j+1,h1,hj=>by
  have h2:=h.ends j (by omega);have h3:=h.ends (j+1) hj;have h4:=h.edge (j+1) hj;have hn:=h.n;have hs:(g.es[j]?.getD default).a*12+(g.es[j]?.getD default).b<(g.es[j+1]?.getD default).a*12+(g.es[j+1]?.getD default).b:=by
   unfold edgeErr at h4;simp only[Nat.add_sub_cancel]at h4;generalize g.es[j]?.getD default=y at*
   generalize g.es[j+1]?.getD default=x at*
   grind
  by_cases e:i=j
  ·rw[e];exact hs
  ·have:=h.code_lt i j (by omega) (by omega)
   omega
theorem Gok.pairwise {g:G}(h:Gok g):g.es.Pairwise fun x y=>¬(x.a=y.a∧x.b=y.b):=by
 rw[List.pairwise_iff_getElem];intro i j hi hj hij he;have:=h.code_lt i j hij hj;simp only[List.getElem?_eq_getElem hi,List.getElem?_eq_getElem hj,Option.getD_some]at this;omega
theorem bet_sum (lo hi:Int):∀es:List E,es.Pairwise (fun x y=>¬(x.a=y.a∧x.b=y.b))→bet lo hi es=sumE (fun x=>if x.a=lo∧x.b=hi then x.m else 0) es
 |[],_=>rfl
 |x::es,h=>by
  obtain⟨h1,h2⟩:=List.pairwise_cons.1 h;unfold bet sumE;by_cases e:x.a=lo∧x.b=hi
  ·rw[if_pos e,if_pos e,sumE_congr _ (fun _=>0) es fun y hy=>by
    have:=h1 y hy;rw[if_neg];rintro⟨e1,e2⟩;exact this ⟨e.1.trans e1.symm,e.2.trans e2.symm⟩,sumE_zero]
   omega
  ·rw[if_neg e,if_neg e,bet_sum lo hi es h2];omega
theorem rowTo_end {g:G}(h:Gok g)(v u:Nat):rowTo g v g.es.length u=rowsF g v u:=by
 unfold rowTo rowsF;rw[List.take_length];by_cases e:v=u
 ·subst e
  rw[if_neg (by simp),←sumE_zero g.es];refine sumE_congr _ _ _ fun x _=> ?_;unfold rowE;split
  ·rfl
  ·split
   ·rw[if_neg (by omega)]
   ·split<;>rfl
 ·rw[if_pos e]
  unfold btw;rw[bet_sum _ _ _ h.pairwise];refine sumE_congr _ _ _ fun x hx=> ?_;have:=h.mem hx;unfold rowE;grind
theorem valTo_end {g:G}(h:Gok g)(u:Nat):valTo g g.es.length u=valence g u:=by
 have e1:valence g u=sumTo (fun k=>sumE (rowE u k) g.es) g.n.toNat:=by
  unfold valence;refine sumTo_congr _ _ _ fun k _=> ?_;have:=rowTo_end h u k;unfold rowTo at this;rw[List.take_length]at this;rw[this];unfold valTerm rowsF;by_cases e:u=k
  ·subst e;simp
  ·rw[if_pos (by omega),if_pos e,btw_comm]
 rw[e1,sumE_sumTo];unfold valTo;rw[List.take_length];refine sumE_congr _ _ _ fun x hx=> ?_;have hm:=h.mem hx;have hn:=h.n;unfold valE;by_cases e:x.a=x.b
 ·rw[if_pos e]
  have:(fun k=>rowE u k x)=fun _=>(0:Int):=by funext k;unfold rowE;rw[if_pos e]
  rw[this];have:=sumTo_one 0 0 g.n.toNat;simpa using this.symm
 ·rw[if_neg e]
  by_cases ha:x.a=u
  ·have:(fun k=>rowE u k x)=fun k:Nat=>if k=x.b.toNat then x.m else 0:=by
    funext k;unfold rowE;rw[if_neg e,if_pos ha];by_cases e2:x.b=k
    ·rw[if_pos e2,if_pos (by omega)]
    ·rw[if_neg e2,if_neg (by omega)]
   rw[this,sumTo_one,if_pos ha,if_neg (by omega:¬x.b=u),if_pos (by omega)];omega
  ·rw[if_neg ha]
   by_cases hb:x.b=u
   ·have:(fun k=>rowE u k x)=fun k:Nat=>if k=x.a.toNat then x.m else 0:=by
     funext k;unfold rowE;rw[if_neg e,if_neg ha,if_pos hb];by_cases e2:x.a=k
     ·rw[if_pos e2,if_pos (by omega)]
     ·rw[if_neg e2,if_neg (by omega)]
    rw[this,sumTo_one,if_pos hb,if_pos (by omega)];omega
   ·have:(fun k=>rowE u k x)=fun _=>(0:Int):=by funext k;unfold rowE;rw[if_neg e,if_neg ha,if_neg hb]
    rw[this,if_neg hb];have:=sumTo_one 0 0 g.n.toNat;simpa using this.symm
structure Fr where
 W0:World
 b:Nat
 bl:Nat
 cl:Nat
 bt:Nat
 ct:Nat
 bv:Nat
 cv:Nat
 N:Nat
 ev:Value
 g:G
 q:Nat
 t:TypeId
def stCells (f:Fr)(tail:List Value):Array Value:=
 (Value.int .i64 f.g.n::f.ev::Value.int .i64 f.q::Value.slice (some ⟨f.bl,0,none⟩) f.N f.cl::Value.slice (some ⟨f.bt,0,none⟩) f.N f.ct::Value.slice (some ⟨f.bv,0,none⟩) f.N f.cv::tail).toArray
structure StI (T0:TypeId)(f:Fr)(w:World)(tail:List Value)(L T:Nat→Int):Prop where
 blk:Blk w f.b (stCells f tail) f.t
 hb:f.W0.heap.size≤f.b
 left:w.ownsRow f.W0.heap.size T0 1 (.slice (some ⟨f.bl,0,none⟩) f.N f.cl) f.N ((vecOf f.N L).map (Value.int .i64))
 times:w.ownsRow f.W0.heap.size T0 1 (.slice (some ⟨f.bt,0,none⟩) f.N f.ct) f.N ((vecOf f.N T).map (Value.int .i64))
 vals:w.ownsRow f.W0.heap.size T0 1 (.slice (some ⟨f.bv,0,none⟩) f.N f.cv) f.N ((vecOf f.N fun v=>valence f.g v).map (Value.int .i64))
 n1:f.b≠f.bl
 n2:f.b≠f.bt
 n3:f.b≠f.bv
 n4:f.bl≠f.bt
 n5:f.bl≠f.bv
 n6:f.bt≠f.bv
 below:Below f.W0.heap.size f.W0 w
 edges:EdgesR f.W0 f.ev f.g.es
 gok:Gok f.g
 hn:f.g.n=f.N
 hq:f.q<f.N
section
variable {T0 : TypeId} {f : Fr} {w w' : World} {tail : List Value} {L T : Nat → Int}
theorem StI.N12 (h:StI T0 f w tail L T):1≤f.N∧f.N≤12:=by have:=h.gok.n;have:=h.hn;omega
theorem StI.mono (h:StI T0 f w tail L T)(hB:Below w.heap.size w w'):StI T0 f w' tail L T:=
 ⟨h.blk.below hB,h.hb,owns_below h.left hB,owns_below h.times hB,owns_below h.vals hB,h.n1,h.n2,h.n3,h.n4,h.n5,h.n6,up h.below hB,h.edges,h.gok,h.hn,h.hq⟩
theorem StI.drew (h:StI T0 f w tail L T):StI T0 f w.drew tail L T:=h.mono (Below.drew (Below.refl _ _))
theorem StI.setL (h:StI T0 f w tail L T)(u:Nat)(x:Int):StI T0 f (w.setCell ⟨f.bl,u,none⟩ (.int .i64 x)) tail (fun i=>if i=u then x else L i) T:=by
 refine⟨h.blk.other h.n1 u _,h.hb,?_,owns_other h.times (Ne.symm h.n4) u _,owns_other h.vals (Ne.symm h.n5) u _,h.n1,h.n2,h.n3,h.n4,h.n5,h.n6,h.below.setCell (owns_lt h.left).1 _,h.edges,h.gok,h.hn,h.hq⟩;have:=owns_set h.left u x;rwa[vecOf_set]at this
theorem StI.congr {L' T':Nat→Int}(h:StI T0 f w tail L T)(hL:∀u,u<f.N→L u=L' u)(hT:∀u,u<f.N→T u=T' u):StI T0 f w tail L' T':=by
 have h3:=h.left;have h4:=h.times;rw[vecOf_congr _ _ _ hL]at h3;rw[vecOf_congr _ _ _ hT]at h4;exact⟨h.blk,h.hb,h3,h4,h.vals,h.n1,h.n2,h.n3,h.n4,h.n5,h.n6,h.below,h.edges,h.gok,h.hn,h.hq⟩
theorem StI.lts (h:StI T0 f w tail L T):f.b<w.heap.size∧f.bl<w.heap.size∧f.bt<w.heap.size∧f.bv<w.heap.size:=⟨h.blk.lt,(owns_lt h.left).2,(owns_lt h.times).2,(owns_lt h.vals).2⟩
theorem StI.cells (h:StI T0 f w tail L T):w.cell? ⟨f.b,0,none⟩=some (.int .i64 f.g.n)∧w.cell? ⟨f.b,1,none⟩=some f.ev∧w.cell? ⟨f.b,2,none⟩=some (.int .i64 f.q)∧
 w.cell? ⟨f.b,3,none⟩=some (.slice (some ⟨f.bl,0,none⟩) f.N f.cl)∧w.cell? ⟨f.b,4,none⟩=some (.slice (some ⟨f.bt,0,none⟩) f.N f.ct)∧w.cell? ⟨f.b,5,none⟩=some (.slice (some ⟨f.bv,0,none⟩) f.N f.cv):=
 ⟨h.blk.cell 0,h.blk.cell 1,h.blk.cell 2,h.blk.cell 3,h.blk.cell 4,h.blk.cell 5⟩
theorem StI.leftAt (h:StI T0 f w tail L T)(u:Nat)(hu:u<f.N):w.cell? ⟨f.bl,u,none⟩=some (.int .i64 (L u))∧w.frozen? ⟨f.bl,u,none⟩=false:=by
 have c:=owns_int h.left u hu;rw[vecOf_get _ _ _ hu]at c;exact⟨c,h.left.frozenAt u⟩
theorem StI.valsAt (h:StI T0 f w tail L T)(u:Nat)(hu:u<f.N):w.cell? ⟨f.bv,u,none⟩=some (.int .i64 (valence f.g u)):=by
 have c:=owns_int h.vals u hu;rw[vecOf_get _ _ _ hu]at c;exact c
end
def KeptB (w w':World)(p:Nat→Prop):Prop:=w.heap.size≤w'.heap.size∧∀k,k<w.heap.size→¬p k→w'.heap[k]? =w.heap[k]?
theorem owns_keptB {w w':World}{p:Nat→Prop}{base:Nat}{e:TypeId}{size:Nat}{v:Value}{n:Nat}{xs:List Value}(h:w.ownsRow base e size v n xs)(hk:KeptB w w' p)(hp:∀k,v.ownBlock=some k→¬p k):w'.ownsRow base e size v n xs:=by
 refine⟨h.1,?_⟩;rcases h.2 with h0|⟨g,cap,cur,rfl,hb,hg,rest⟩
 ·exact .inl h0
 ·refine .inr ⟨g,cap,cur,rfl,hb,?_,rest⟩
  rw[hk.2 g (Array.getElem?_eq_some_iff.1 hg).1 (hp g rfl)];exact hg
theorem balloc {W1 w:World}(h:Below W1.heap.size W1 w)(o:Obj):Below W1.heap.size W1 (w.alloc o):=h.alloc h.size o
theorem ownZ {w:World}{B base N:Nat}{e:TypeId}(h:B=w.heap.size)(hb:base≤w.heap.size)(hN:N≤1000):(w.alloc (.cells (zer N) e)).ownsRow base e 1 (.slice (some ⟨B,0,none⟩) N N) N ((vecOf N fun _=>0).map (Value.int .i64)):=by
 subst h;exact owns_zer base (heap_new _ _) hb hN
theorem StI.kept {T0:TypeId}{f:Fr}{w w':World}{tail:List Value}{L T:Nat→Int}(h:StI T0 f w tail L T){p:Nat→Prop}(hK:KeptB w w' p)(p1:¬p f.b)(p2:¬p f.bl)(p3:¬p f.bt)(p4:¬p f.bv)(hB:Below f.W0.heap.size f.W0 w'):StI T0 f w' tail L T:=by
 obtain⟨l1,l2,l3,l4⟩:=h.lts;refine⟨?_,h.hb,owns_keptB h.left hK (fun k hk=>by obtain rfl:=Option.some.inj hk;exact p2),owns_keptB h.times hK (fun k hk=>by obtain rfl:=Option.some.inj hk;exact p3),owns_keptB h.vals hK (fun k hk=>by obtain rfl:=Option.some.inj hk;exact p4),h.n1,h.n2,h.n3,h.n4,h.n5,h.n6,hB,h.edges,h.gok,h.hn,h.hq⟩;have:=hK.2 f.b l1 p1;have hb:=h.blk;unfold Blk at*
 rw[this];exact hb
theorem KeptB.cell {w w':World}{p:Nat→Prop}(h:KeptB w w' p)(k o:Nat)(hk:k<w.heap.size)(hp:¬p k):w'.cell? ⟨k,o,none⟩=w.cell? ⟨k,o,none⟩:=by
 refine World.cell?_of_block ?_;exact h.2 k hk hp
theorem cfg_bd {g:G}{q:Int}{ds:List Int}(h:cfgErr g q ds=0)(N:Nat)(hN:g.n=N):okS N 1048576 0 ⟨dOf ds,fun _=>0⟩:=by
 have hc:=cfg_ok h;refine⟨fun u hu=> ?_,fun u hu=>by dsimp only;omega⟩;have h1:u<ds.length:=by have:=hc.2.2.2.1;omega
 have:=hc.2.2.2.2.1 _ (List.getElem_mem h1);show _≤dOf ds u∧dOf ds u≤_;unfold dOf;rw[List.getElem?_eq_getElem h1];simp only[Option.getD_some];omega
structure DrI (T0:TypeId)(f:Fr)(w:World)(rv wv:Value)(way:List Int)(most:Int)(L T:Nat→Int):Prop where
 st:StI T0 f w [rv,wv,.int .i64 most] L T
 way:w.ownsRow f.W0.heap.size T0 1 wv way.length (way.map (Value.int .i64))
 sep:∀k,wv.ownBlock=some k→k≠f.b∧k≠f.bl∧k≠f.bt∧k≠f.bv
section
variable {T0 : TypeId} {f : Fr} {w w' : World} {rv wv : Value} {way : List Int} {most : Int} {L T : Nat → Int}
theorem DrI.mono (h:DrI T0 f w rv wv way most L T)(hB:Below w.heap.size w w'):DrI T0 f w' rv wv way most L T:=⟨h.st.mono hB,owns_below h.way hB,h.sep⟩
theorem DrI.setL (h:DrI T0 f w rv wv way most L T)(u:Nat)(x:Int):DrI T0 f (w.setCell ⟨f.bl,u,none⟩ (.int .i64 x)) rv wv way most (fun i=>if i=u then x else L i) T:=
 ⟨h.st.setL u x,h.way.kept (grown_set w f.bl u _) (by cases hv:wv.ownBlock with|none=>exact .inl rfl|some k=>exact .inr (fun e=>(h.sep k hv).2.1 (Option.some.inj e))),h.sep⟩
theorem DrI.congr {L' T':Nat→Int}(h:DrI T0 f w rv wv way most L T)(hL:∀u,u<f.N→L u=L' u)(hT:∀u,u<f.N→T u=T' u):DrI T0 f w rv wv way most L' T':=⟨h.st.congr hL hT,h.way,h.sep⟩
end
structure PFr where
 b:Nat
 bd:Nat
 cd:Nat
 bv:Nat
 bf:Nat
 go:Nat
 co:Nat
 bs:Nat→Nat
 N:Nat
 q:Nat
 g:G
 W0:World
def pCells (f:PFr)(tot:Int)(wt:Nat→Bool):Array Value:=
 #[.slice (some ⟨f.bd,0,none⟩) f.N f.cd,.int .i64 f.q,.slice (some ⟨f.go,0,none⟩) f.N f.co,.slice (some ⟨f.bv,0,none⟩) f.N f.N,.slice (some ⟨f.bf,0,none⟩) f.N f.N,.int .i64 tot,
   .bool (wt 0),.bool (wt 1),.bool (wt 2),.bool (wt 3),.bool (wt 4),.bool (wt 5),.bool (wt 6),.bool (wt 7),.bool (wt 8),.bool (wt 9),.bool (wt 10),.bool (wt 11)]
theorem pCells_tot (f:PFr)(tot x:Int)(wt:Nat→Bool):(pCells f tot wt).setIfInBounds 5 (.int .i64 x)=pCells f x wt:=by simp[pCells]
theorem pCells_wt (f:PFr)(tot:Int)(wt:Nat→Bool)(x:Bool):∀u,u<12→(pCells f tot wt).setIfInBounds (6+u) (.bool x)=pCells f tot (fun i=>if i=u then x else wt i)
 |0,_=>by simp[pCells]
 |1,_=>by simp[pCells]
 |2,_=>by simp[pCells]
 |3,_=>by simp[pCells]
 |4,_=>by simp[pCells]
 |5,_=>by simp[pCells]
 |6,_=>by simp[pCells]
 |7,_=>by simp[pCells]
 |8,_=>by simp[pCells]
 |9,_=>by simp[pCells]
 |10,_=>by simp[pCells]
 |11,_=>by simp[pCells]
 |n+12,h=>by omega
theorem pCells_at (f:PFr)(tot:Int)(wt:Nat→Bool):∀u,u<12→(pCells f tot wt)[6+u]? =some (.bool (wt u))
 |0,_=>by simp[pCells]
 |1,_=>by simp[pCells]
 |2,_=>by simp[pCells]
 |3,_=>by simp[pCells]
 |4,_=>by simp[pCells]
 |5,_=>by simp[pCells]
 |6,_=>by simp[pCells]
 |7,_=>by simp[pCells]
 |8,_=>by simp[pCells]
 |9,_=>by simp[pCells]
 |10,_=>by simp[pCells]
 |11,_=>by simp[pCells]
 |n+12,h=>by omega
structure PiI (f:PFr)(w:World)(L T:Nat→Int)(tot:Int)(wt:Nat→Bool):Prop where
 blk:Blk w f.b (pCells f tot wt) 268
 left:w.ownsRow f.W0.heap.size 3 1 (.slice (some ⟨f.bd,0,none⟩) f.N f.cd) f.N ((vecOf f.N L).map (Value.int .i64))
 vals:w.ownsRow f.W0.heap.size 3 1 (.slice (some ⟨f.bv,0,none⟩) f.N f.N) f.N ((vecOf f.N fun v=>valence f.g v).map (Value.int .i64))
 fired:w.ownsRow f.W0.heap.size 3 1 (.slice (some ⟨f.bf,0,none⟩) f.N f.N) f.N ((vecOf f.N T).map (Value.int .i64))
 rows:OwnM 29 3 w f.W0.heap.size (.slice (some ⟨f.go,0,none⟩) f.N f.co) f.N f.N f.bs (rowsF f.g)
 hb:f.W0.heap.size≤f.b
 below:Below f.W0.heap.size f.W0 w
 d1:f.bd≠f.bv
 d2:f.bd≠f.bf
 d3:f.bv≠f.bf
 r1:∀i,i<f.N→f.bs i≠f.bd
 r2:∀i,i<f.N→f.bs i≠f.bv
 r3:∀i,i<f.N→f.bs i≠f.bf
 gok:Gok f.g
 hn:f.g.n=f.N
section
variable {f : PFr} {w w' : World} {L T : Nat → Int} {tot : Int} {wt : Nat → Bool}
theorem PiI.N12 (h:PiI f w L T tot wt):1≤f.N∧f.N≤12:=by have:=h.gok.n;have:=h.hn;omega
theorem PiI.mono (h:PiI f w L T tot wt)(hB:Below w.heap.size w w'):PiI f w' L T tot wt:=
 ⟨h.blk.below hB,owns_below h.left hB,owns_below h.vals hB,owns_below h.fired hB,h.rows.below hB,h.hb,h.below.trans (hB.mono h.below.size),h.d1,h.d2,h.d3,h.r1,h.r2,h.r3,h.gok,h.hn⟩
theorem PiI.drew (h:PiI f w L T tot wt):PiI f w.drew L T tot wt:=h.mono (Below.drew (Below.refl _ _))
theorem PiI.ne (h:PiI f w L T tot wt):f.bd≠f.b∧f.bv≠f.b∧f.bf≠f.b∧f.go≠f.b∧∀i,i<f.N→f.bs i≠f.b:=
 ⟨owns_blk h.blk h.left (by decide) _ rfl,owns_blk h.blk h.vals (by decide) _ rfl,owns_blk h.blk h.fired (by decide) _ rfl,owns_blk h.blk h.rows.outer (by decide) _ rfl,fun i hi=>owns_blk h.blk (h.rows.row i hi) (by decide) _ rfl⟩
theorem PiI.go (h:PiI f w L T tot wt):f.go≠f.bd∧f.go≠f.bv∧f.go≠f.bf:=⟨owns_differ h.rows.outer h.left (by decide),owns_differ h.rows.outer h.vals (by decide),owns_differ h.rows.outer h.fired (by decide)⟩
theorem PiI.rowsSet (h:PiI f w L T tot wt)(k:Nat)(h1:f.go≠k)(h2:∀i,i<f.N→f.bs i≠k)(o:Nat)(v:Value):OwnM 29 3 (w.setCell ⟨k,o,none⟩ v) f.W0.heap.size (.slice (some ⟨f.go,0,none⟩) f.N f.co) f.N f.N f.bs (rowsF f.g):=
 h.rows.kept (grown_set w k o v) (.inr (fun e=>h1 (Option.some.inj e))) (fun i hi e=>h2 i hi (Option.some.inj e).symm)
theorem PiI.setL (h:PiI f w L T tot wt)(u:Nat)(x:Int):PiI f (w.setCell ⟨f.bd,u,none⟩ (.int .i64 x)) (fun i=>if i=u then x else L i) T tot wt:=by
 obtain⟨n1,n2,n3,n4,n5⟩:=h.ne;have l1:=(owns_lt h.left).1;refine⟨h.blk.other n1.symm u _,?_,owns_other h.vals h.d1.symm u _,owns_other h.fired h.d2.symm u _,h.rowsSet _ h.go.1 h.r1 u _,h.hb,h.below.setCell (by exact l1) _,h.d1,h.d2,h.d3,h.r1,h.r2,h.r3,h.gok,h.hn⟩;have:=owns_set h.left u x;rwa[vecOf_set]at this
theorem PiI.setF (h:PiI f w L T tot wt)(u:Nat)(x:Int):PiI f (w.setCell ⟨f.bf,u,none⟩ (.int .i64 x)) L (fun i=>if i=u then x else T i) tot wt:=by
 obtain⟨n1,n2,n3,n4,n5⟩:=h.ne;have l1:=(owns_lt h.fired).1;refine⟨h.blk.other n3.symm u _,owns_other h.left h.d2 u _,owns_other h.vals h.d3 u _,?_,h.rowsSet _ h.go.2.2 h.r3 u _,h.hb,h.below.setCell (by exact l1) _,h.d1,h.d2,h.d3,h.r1,h.r2,h.r3,h.gok,h.hn⟩;have:=owns_set h.fired u x;rwa[vecOf_set]at this
theorem PiI.setTot (h:PiI f w L T tot wt)(x:Int):PiI f (w.setCell ⟨f.b,5,none⟩ (.int .i64 x)) L T x wt:=by
 obtain⟨n1,n2,n3,n4,n5⟩:=h.ne;refine⟨?_,owns_other h.left n1 _ _,owns_other h.vals n2 _ _,owns_other h.fired n3 _ _,h.rowsSet _ n4 n5 _ _,h.hb,h.below.setCell (by exact h.hb) _,h.d1,h.d2,h.d3,h.r1,h.r2,h.r3,h.gok,h.hn⟩;have:=h.blk.set 5 (.int .i64 x);rwa[pCells_tot]at this
theorem PiI.setW (h:PiI f w L T tot wt)(u:Nat)(hu:u<12)(x:Bool):PiI f (w.setCell ⟨f.b,6+u,none⟩ (.bool x)) L T tot (fun i=>if i=u then x else wt i):=by
 obtain⟨n1,n2,n3,n4,n5⟩:=h.ne;refine⟨?_,owns_other h.left n1 _ _,owns_other h.vals n2 _ _,owns_other h.fired n3 _ _,h.rowsSet _ n4 n5 _ _,h.hb,h.below.setCell (by exact h.hb) _,h.d1,h.d2,h.d3,h.r1,h.r2,h.r3,h.gok,h.hn⟩;have:=h.blk.set (6+u) (.bool x);rwa[pCells_wt f tot wt x u hu]at this
theorem PiI.congr {L' T':Nat→Int}{wt':Nat→Bool}(h:PiI f w L T tot wt)(hL:∀u,u<f.N→L u=L' u)(hT:∀u,u<f.N→T u=T' u)(hw:∀u,u<12→wt u=wt' u):PiI f w L' T' tot wt':=by
 refine⟨?_,?_,h.vals,?_,h.rows,h.hb,h.below,h.d1,h.d2,h.d3,h.r1,h.r2,h.r3,h.gok,h.hn⟩
 ·have e:pCells f tot wt=pCells f tot wt':=by
   unfold pCells;rw[hw 0 (by omega),hw 1 (by omega),hw 2 (by omega),hw 3 (by omega),hw 4 (by omega),hw 5 (by omega),hw 6 (by omega),hw 7 (by omega),hw 8 (by omega),hw 9 (by omega),hw 10 (by omega),hw 11 (by omega)]
  rw[← e];exact h.blk
 ·rw[← vecOf_congr f.N L L' hL];exact h.left
 ·rw[← vecOf_congr f.N T T' hT];exact h.fired
theorem PiI.cells (h:PiI f w L T tot wt):w.cell? ⟨f.b,0,none⟩=some (.slice (some ⟨f.bd,0,none⟩) f.N f.cd)∧w.cell? ⟨f.b,1,none⟩=some (.int .i64 f.q)∧w.cell? ⟨f.b,2,none⟩=some (.slice (some ⟨f.go,0,none⟩) f.N f.co)∧
 w.cell? ⟨f.b,3,none⟩=some (.slice (some ⟨f.bv,0,none⟩) f.N f.N)∧w.cell? ⟨f.b,4,none⟩=some (.slice (some ⟨f.bf,0,none⟩) f.N f.N)∧w.cell? ⟨f.b,5,none⟩=some (.int .i64 tot):=by
 refine⟨?_,?_,?_,?_,?_,?_⟩<;>(rw [h.blk.cell];simp[pCells])
theorem PiI.wtAt (h:PiI f w L T tot wt)(u:Nat)(hu:u<12):w.cell? ⟨f.b,6+u,none⟩=some (.bool (wt u)):=by rw[h.blk.cell,pCells_at f tot wt u hu]
theorem PiI.leftAt (h:PiI f w L T tot wt)(u:Nat)(hu:u<f.N):w.cell? ⟨f.bd,u,none⟩=some (.int .i64 (L u)):=by rw[owns_int h.left u hu,vecOf_get _ _ _ hu]
theorem PiI.valsAt (h:PiI f w L T tot wt)(u:Nat)(hu:u<f.N):w.cell? ⟨f.bv,u,none⟩=some (.int .i64 (valence f.g u)):=by rw[owns_int h.vals u hu,vecOf_get _ _ _ hu]
theorem PiI.firedAt (h:PiI f w L T tot wt)(u:Nat)(hu:u<f.N):w.cell? ⟨f.bf,u,none⟩=some (.int .i64 (T u)):=by rw[owns_int h.fired u hu,vecOf_get _ _ _ hu]
end
def firstT (p:Nat→Bool):Nat→Nat→Int
 |_,0=> -1
 |k,f+1=>if p k then k else firstT p (k+1) f
theorem c_IndexB (wt:Nat→Bool)(b off n cap:Nat)(w:World)(hc:∀u,u<n→w.cell? ⟨b,off+u,none⟩=some (.bool (wt u)))(hn:n≤1000):
 Calls Tryz.prog 364 #[.slice (some ⟨b,off,none⟩) n cap,.bool true] w fun e w'=>e= .returned (.int .i64 (firstT wt 0 n))∧w=w':=by
 generalize hz:firstT wt 0 n=z;have HZ:Hid (firstT wt 0 (n-0)=z):=hz;have HC:=hid hc;have HN:=hid hn;clear hz hc hn;go_enter Tryz.func364,Tryz.ntmps364;go_wp2;go_loopw [8] (fun i wr=>∃k:Nat,k≤n∧i= .int .i64 k∧Hid (firstT wt k (n-k)=z)∧Hid (w=wr)) (fun i _=>n-(intOf i).toNat);case atStart=>exact⟨0,Nat.zero_le _,rfl,HZ,rfl⟩
 case round=>
  clear HZ;obtain⟨k,hk,rfl,HZ,HE⟩:=hrel;obtain rfl:=HE.out;by_cases hlt:k<n
  ·have c1:=HC.out k hlt
   have hlt':(k:Int)<(n:Int):=by omega
   have hk0:(0:Int)≤(k:Int):=by omega
   have hst:Hid (firstT wt k (n-k)=if wt k then(k:Int)else firstT wt (k+1) (n-(k+1))):=by
    show _=_;rw[show n-k=(n-(k+1))+1 by omega];rfl
   cases hw:wt k with
   |true=>
    rw[hw]at c1
    have hf:Hid (z=(k:Int)):=by show _=_;rw[← HZ.out,hst.out,hw];rfl
    clear hst hw
    go_wp2
    go_ret
    exact⟨by rw[hf.out];rfl,rfl⟩
   |false=>
    rw[hw]at c1
    have hf:Hid (firstT wt (k+1) (n-(k+1))=z):=by show _=_;rw[← HZ.out,hst.out,hw];rfl
    have wk:IntKind.i64.wrap ((k:Int)+1)=(k:Int)+1:=IntWalk.i64_in _ (by have:=HN.out;omega)
    clear hst hw
    go_wp2
    go_roundw
    case rel=>exact⟨k+1,by omega,by go_num,hf,True.intro⟩
    case measure=>simp[intOf];omega
  ·have hf:Hid (z= -1):=by show _=_;rw[← HZ.out,show n-k=0 by omega];rfl
   have hlt':¬(k:Int)<(n:Int):=by omega
   go_wp2;go_ret;exact⟨by rw[hf.out];rfl,rfl⟩
theorem p_unst (f:PFr)(w:World)(L T:Nat→Int)(tot:Int)(wt:Nat→Bool)(h:PiI f w L T tot wt)(v:Nat)(hv:v<f.N):
 Calls Tryz.prog 363 #[.pointer (some ⟨f.b,0,none⟩),.int .i64 v] w fun e w'=>e= .returned (.bool (isUnst f.g f.q L v))∧Below w.heap.size w w':=by
 obtain⟨p0,p1,p2,p3,p4,p5⟩:=h.cells;have c1:=h.leftAt v hv;have c2:=h.valsAt v hv;have l0:=h.blk.lt;have l1:=(owns_lt h.left).2;have l2:=(owns_lt h.vals).2;have hv0:(0:Int)≤(v:Int):=by omega
 have hv1:(v:Int)<(f.N:Int):=by omega
 generalize hz:isUnst f.g f.q L v=z;unfold isUnst at hz;clear h p2 p4 p5;generalize L v=x at*
 generalize valence f.g v=y at*
 by_cases hq:(v:Int)=(f.q:Int)
 ·have hqb:((v:Int)!=(f.q:Int))=false:=by simp[hq]
  have hf:Hid (z=false):=by show _=_;rw[← hz];simp[hq]
  clear hz hq;go_enter Tryz.func363,Tryz.ntmps363;go_wp2;go_quiet (fail);go_wp2;go_ret;exact⟨by rw[hf.out];rfl,below_dN (Below.refl _ _) _⟩
 ·have hqb:((v:Int)!=(f.q:Int))=true:=by simp[hq]
  by_cases hx:y≤x
  ·have hf:Hid (z=true):=by show _=_;rw[← hz];simp[hq,hx]
   clear hz hq;go_enter Tryz.func363,Tryz.ntmps363;go_wp2;go_quiet (fail);go_wp2;go_ret;exact⟨by rw[hf.out];first|rfl|simp[hx]|(simp;omega),below_dN (Below.refl _ _) _⟩
  ·have hf:Hid (z=false):=by show _=_;rw[← hz];simp[hx]
   clear hz hq;go_enter Tryz.func363,Tryz.ntmps363;go_wp2;go_quiet (fail);go_wp2;go_ret;exact⟨by rw[hf.out];first|rfl|simp[hx]|(simp;omega),below_dN (Below.refl _ _) _⟩
theorem p_next (f:PFr)(w:World)(L T:Nat→Int)(tot:Int)(wt:Nat→Bool)(h:PiI f w L T tot wt):
 Calls Tryz.prog 327 #[.pointer (some ⟨f.b,0,none⟩)] w fun e w'=>e= .returned (.int .i64 (firstT wt 0 12))∧w=w':=by
 have l0:=h.blk.lt;have hI:=hid (c_IndexB wt f.b 6 12 12 w (fun u hu=>h.wtAt u hu) (by omega));clear h;generalize firstT wt 0 12=z at*
 go_enter Tryz.func327,Tryz.ntmps327;go_wp2_with (go_at_call 364;refine hI.out.mono ?_;rintro e w1 ⟨rfl,rfl⟩);go_ret;exact⟨rfl,rfl⟩
theorem waitT (g:G)(q:Int)(L:Nat→Int)(wt:Nat→Bool)(v:Nat):(fun i=>if i=v then isUnst g q L v else wt i)=fun i=>if i=v then isUnst g q L i else wt i:=by
 funext i;by_cases e:i=v
 ·subst e;simp
 ·simp[e]
theorem p_wait (f:PFr)(w:World)(L T:Nat→Int)(tot:Int)(wt:Nat→Bool)(h:PiI f w L T tot wt)(v:Nat)(hv:v<f.N):
 Calls Tryz.prog 325 #[.pointer (some ⟨f.b,0,none⟩),.int .i64 v] w fun e w'=>e= .returned (.tuple #[])∧PiI f w' L T tot (fun i=>if i=v then isUnst f.g f.q L i else wt i)∧KeptB w w' (fun k=>k=f.b):=by
 have l0:=h.blk.lt;have hv12:v<12:=by have:=h.N12;omega
 have hu:=hid (fun (w1:World) (h1:PiI f w1 L T tot wt)=>p_unst f w1 L T tot wt h1 v hv);have H:=hid h;have hv0:(0:Int)≤(v:Int):=by omega
 have hv1:(v:Int)<12:=by omega
 have hc:=h.wtAt v hv12;have hf:=h.blk.frozen (6+v);clear h;generalize hz:isUnst f.g f.q L v=z at*
 have HZ:=hid hz;clear hz;generalize hb:f.b=b at*
 have HBE:=hid hb;clear hb;generalize wt v=y at hc;go_enter Tryz.func325,Tryz.ntmps325;let S:World→Prop:=fun w'=>Below w.heap.size w w'
 (refine wp_region_text 8 [0,1,2,3,5,6,4,7] S (by kernel_rfl) (by kernel_rfl) (by intro _ _ d _ _ h;cases d<;>exact h) ?hS ?_;rotate_left;simp only[xA,xB,xC,xD,xE,xF]);case hS=>exact Below.drew (Below.refl _ _)
 (repeat ((refine' wpSeq_take rfl _ (by rfl) ?_ ?_;rotate_left;focus(intro w' hS;(try dsimp only at hS);have hS':=hS;go_simp;(first|done|with_reducible rfl));(try go_frame));(try go_frame)));refine wpSeq_call rfl (by rfl) (fun K hK=> ?_);go_simp;refine(hu.out w.drew H.out.drew).mono ?_;rintro e w1 ⟨rfl,hB1⟩;have k1:Below w.heap.size w w1:=(Below.refl _ w).drew.trans hB1;refine hK _ _ k1 ?_;clear hK K;(repeat ((refine' wpSeq_take rfl _ (by rfl) ?_ ?_;rotate_left;focus(intro w' hS;(try dsimp only at hS);have hS':=hS;go_simp;(first|done|with_reducible rfl));(try go_frame));(try go_frame)));refine wpSeq_nil ?_
 clear S;have e1:=(k1.cell (p:=⟨b,6+v,none⟩) l0).trans hc;have e2:=(k1.frozen (p:=⟨b,6+v,none⟩) l0).trans hf;have l1:b<w1.heap.size:=by have:=k1.size;omega
 have HP:Hid (PiI f (w1.setCell ⟨b,6+v,none⟩ (.bool z)) L T tot (fun i=>if i=v then isUnst f.g f.q L i else wt i)):=by
  have:=(H.out.mono k1).setW v hv12 z;rw[HBE.out,←HZ.out,waitT]at this;rw[← HZ.out];exact this
 have HK:=hid k1;clear k1 hB1 hc hf;go_wp2;go_end0;refine⟨rfl,HP.out,by have:=HK.out.size;simpa using this,fun k hk hne=> ?_⟩;rw[Below.heap_setCell _ ⟨b,6+v,none⟩ _ k hne];exact HK.out.block k hk
end Go.Proofs.YtclgllmipcbagaaGreatDoor
