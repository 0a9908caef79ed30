/-
  Parts of the proof: XAb XSpec9 XP3 XP5
-/
import Derived.Test.YtclgllmipcbagaaGreatDoorBk00
import Derived.Maps.Own
import Derived.Maps.OwnOps
import Derived.Maps.OwnSet
import Derived.Maps.AppendAt
import Derived.Deep.WholeRow
import Derived.Test.YtclgllmipcbagaaGreatDoorBk02
namespace Go.Proofs.YtclgllmipcbagaaGreatDoor
open Go.RowKit
set_option linter.unusedVariables false
set_option linter.unusedSimpArgs false
set_option maxRecDepth 100000
set_option maxHeartbeats 16000000
theorem sumTo_add (f h:Nat→Int):∀n,sumTo (fun k=>f k+h k) n=sumTo f n+sumTo h n
 |0=>rfl
 |n+1=>by
  show sumTo (fun k=>f k+h k) n+(f n+h n)=(sumTo f n+f n)+(sumTo h n+h n);rw[sumTo_add f h n];omega
theorem sumTo_at (f:Nat→Int)(v:Nat)(x:Int)(n:Nat)(hv:v<n):sumTo (fun w=>if w=v then f w+x else f w) n=sumTo f n+x:=by
 have h1:sumTo (fun w=>if w=v then f w+x else f w) n=sumTo (fun w=>f w+(if w=v then x else 0)) n:=sumTo_congr _ _ n fun k _=>by
  show(if k=v then f k+x else f k)=f k+(if k=v then x else 0);split<;>omega
 rw[h1,sumTo_add,sumTo_one,if_pos hv]
def addT (T:Nat→Int)(v:Nat)(k:Int):Nat→Int:=fun u=>if u=v then T u+k else T u
def fireK (g:G)(v:Nat)(k:Int)(s:St):St:=⟨fun u=>(if u=v then s.L u-k*valence g v else s.L u)+k*rowsF g v u,addT s.T v k⟩
theorem sum_fire (g:G){N:Nat}(s:St){v:Nat}(hv:v<N)(k:Int):sumTo (fireK g v k s).T N=sumTo s.T N+k:=sumTo_at s.T v k N hv
def stGo (g:G)(q:Int)(N:Nat):Nat→Int→St→Option St
 |0,_,s=>if waitN g q N s.L=[]then some s else none
 |f+1,t,s=>match waitN g q N s.L with
  |[]=>some s
  |v::_=>if (maxF:Int)<t+s.L v.toNat/valence g v then none else stGo g q N f (t+s.L v.toNat/valence g v) (fireK g v.toNat (s.L v.toNat/valence g v) s)
theorem wait_head {g:G}{q:Int}{N:Nat}{L:Nat→Int}{v:Int}{l:List Int}(h:waitN g q N L=v::l):∃u:Nat,v=u∧u<N∧(u:Int)≠q∧valence g u≤L u:=by
 obtain⟨q1,q2,q3⟩:=waitTo_mem (isUnst g q L) N v (by rw[show waitTo (isUnst g q L) N=v::l from h];exact List.mem_cons_self);obtain⟨u,rfl⟩:=Int.eq_ofNat_of_zero_le q1;refine⟨u,rfl,by omega,?_,?_⟩
 ·unfold isUnst at q3;simp at q3;exact q3.1
 ·unfold isUnst at q3;simp at q3;exact q3.2
theorem div_legal {a b:Int}(hb:0<b)(h:b≤a):1≤a/b∧a/b*b≤a:=by
 refine⟨?_,Int.ediv_mul_le a (by omega)⟩;have:=Int.ediv_le_ediv hb h;rwa[Int.ediv_self (by omega)]at this
end Go.Proofs.YtclgllmipcbagaaGreatDoor
namespace Go.Proofs.YtclgllmipcbagaaGreatDoor
set_option linter.unusedVariables false
set_option linter.unusedSimpArgs false
set_option maxRecDepth 100000
set_option maxHeartbeats 16000000
open Go.RowKit Go.Maps
def cr (F:Nat→Nat):Nat→Nat
 |0=>0
 |k+1=>cr F k+if F k=k then 1 else 0
theorem cr_le (F:Nat→Nat):∀k,cr F k≤k
 |0=>Nat.le_refl _
 |k+1=>by unfold cr;have:=cr_le F k;split<;>omega
theorem cr_mono (F:Nat→Nat)(i:Nat):∀k,i≤k→cr F i≤cr F k
 |0,h=>by obtain rfl:i=0:=by omega
          exact Nat.le_refl _
 |k+1,h=>by
  by_cases e:i=k+1
  ·rw[e];exact Nat.le_refl _
  ·have:=cr_mono F i k (by omega)
   conv=>rhs;unfold cr
   omega
theorem cr_lt (F:Nat→Nat)(i k:Nat)(h:i<k)(hF:F i=i):cr F i<cr F k:=by
 have h1:=cr_mono F (i+1) k h
 have h2:cr F (i+1)=cr F i+1:=by conv=>lhs;unfold cr
                                 rw[if_pos hF]
 omega
def plD (F:Nat→Nat):Nat→DataW Unit
 |0=> .map []
 |k+1=>if F k=k then(plD F k).put (.int .i64 (k:Int)) (.lit (.int .i64 (cr F k:Int)))else plD F k
theorem plD_map (F:Nat→Nat):∀k,IsMap (plD F k)
 |0=>⟨[],rfl⟩
 |k+1=>by
  unfold plD;split
  ·obtain⟨es,h⟩:=plD_map F k
   rw[h];exact⟨_,rfl⟩
  ·exact plD_map F k
theorem plD_at (F:Nat→Nat)(v:Nat)(hF:F v=v)(hv:v<1000):∀k,v<k→(plD F k).atKey (.int .i64 (v:Int)) (.lit (.int .i64 0))= .lit (.int .i64 (cr F v:Int))
 |0,h=>by omega
 |k+1,h=>by
  unfold plD;by_cases e:v=k
  ·subst e
   rw[if_pos hF];exact atKey_put_same (plD_map F v) (by trivial) _ _
  ·have ih:=plD_at F v hF hv k (by omega)
   split
   ·rw[atKey_put_other (by simp;omega)]
    exact ih
   ·exact ih
theorem cr_yes {F:Nat→Nat}{k:Nat}(h:F k=k):cr F (k+1)=cr F k+1:=by rw[cr,if_pos h]
theorem cr_no {F:Nat→Nat}{k:Nat}(h:F k≠k):cr F (k+1)=cr F k:=by rw[cr,if_neg h];rfl
theorem plD_yes {F:Nat→Nat}{k:Nat}(h:F k=k):plD F (k+1)=(plD F k).put (.int .i64 (k:Int)) (.lit (.int .i64 (cr F k:Int))):=by rw[plD,if_pos h]
theorem plD_no {F:Nat→Nat}{k:Nat}(h:F k≠k):plD F (k+1)=plD F k:=by rw[plD,if_neg h]
structure OwnR (T1 T0:TypeId)(w:World)(base:Nat)(v:Value)(m:Nat)(rv:Nat→Value)(xs:Nat→List Int):Prop where
 outer:w.ownsRow base T1 1 v m ((List.range m).map rv)
 row:∀i,i<m→w.ownsRow base T0 1 (rv i) (xs i).length ((xs i).map (Value.int .i64))
 inj:∀i j,i<m→j<m→i≠j→(rv i).ownBlock=none∨(rv i).ownBlock≠(rv j).ownBlock
section
variable {T1 T0 : TypeId} {w w' : World} {base : Nat} {v : Value} {g cap m : Nat} {rv : Nat → Value} {xs : Nat → List Int}
theorem OwnR.zero (T1 T0:TypeId)(w:World)(base:Nat)(rv:Nat→Value)(xs:Nat→List Int):OwnR T1 T0 w base (.slice none 0 0) 0 rv xs:=
 ⟨World.ownsRow_nil _ _ _ _,fun i hi=>by omega,fun i j hi=>by omega⟩
theorem OwnR.below (h:OwnR T1 T0 w base v m rv xs)(hB:Below w.heap.size w w'):OwnR T1 T0 w' base v m rv xs:=
 ⟨owns_below h.outer hB,fun i hi=>owns_below (h.row i hi) hB,h.inj⟩
theorem OwnR.kept (h:OwnR T1 T0 w base v m rv xs){r:Option Nat}(hg:w.grownBy w' r)(ho:v.ownBlock=none∨v.ownBlock≠r)(hr:∀i,i<m→(rv i).ownBlock=none∨(rv i).ownBlock≠r):OwnR T1 T0 w' base v m rv xs:=
 ⟨h.outer.kept hg ho,fun i hi=>(h.row i hi).kept hg (hr i hi),h.inj⟩
theorem OwnR.apart (h:OwnR T1 T0 w base v m rv xs)(hT:T1≠T0)(i:Nat)(hi:i<m):v.ownBlock=none∨v.ownBlock≠(rv i).ownBlock:=by
 rcases h.outer.2 with ⟨h',_⟩|⟨g,cap,cur,rfl,_,hg,_⟩
 ·left;rw[h'];rfl
 ·rcases(h.row i hi).2 with ⟨h2,_⟩|⟨g2,cap2,cur2,h2,_,hg2,_⟩
  ·right;rw[h2];simp[Value.ownBlock]
  ·right
   rw[h2];simp only[Value.ownBlock,ne_eq,Option.some.injEq];rintro rfl;rw[hg]at hg2;simp at hg2;exact hT hg2.2
theorem OwnR.snoc {v':Value}(h:OwnR T1 T0 w base v m rv xs)(hg:w.grownBy w' v.ownBlock)(hT:T1≠T0)(hb:base≤w'.heap.size)
 (ho:w'.ownsRow base T1 1 v' (m+1) (((List.range m).map rv)++[.slice none 0 0])):
 OwnR T1 T0 w' base v' (m+1) (fun i=>if i<m then rv i else .slice none 0 0) (fun i=>if i<m then xs i else[]):=by
 refine⟨?_,fun i hi=> ?_,fun i j hi hj hne=> ?_⟩
 ·have e:((List.range (m+1)).map fun i=>if i<m then rv i else Value.slice none 0 0)=((List.range m).map rv)++[.slice none 0 0]:=by
   rw[List.range_succ,List.map_append];congr 1
   ·exact List.map_congr_left fun i hi=>by rw[if_pos (List.mem_range.1 hi)]
   ·simp
  rw[e];exact ho
 ·by_cases h1:i<m
  ·simp only[if_pos h1]
   refine(h.row i h1).kept hg ?_;rcases h.apart hT i h1 with e|e
   ·rw[e]
    cases hv:(rv i).ownBlock with
    |none=>exact .inl rfl
    |some q=>exact .inr (by simp)
   ·exact .inr (Ne.symm e)
  ·simp only[if_neg h1]
   exact World.ownsRow_nil _ _ _ _
 ·by_cases h1:i<m
  ·by_cases h2:j<m
   ·simp only[if_pos h1,if_pos h2];exact h.inj i j h1 h2 hne
   ·simp only[if_pos h1,if_neg h2]
    cases hv:(rv i).ownBlock with
    |none=>exact .inl rfl
    |some q=>exact .inr (by simp[Value.ownBlock])
  ·simp only[if_neg h1];exact .inl rfl
theorem OwnR.put {w2:World}{b c n' cp:Nat}{zs:List Int}(h:OwnR T1 T0 w base (.slice (some ⟨g,0,none⟩) m cap) m rv xs)(hT:T1≠T0)(hc:c<m)(hg:w.grownBy w2 (rv c).ownBlock)
 (hn:w2.ownsRow base T0 1 (.slice (some ⟨b,0,none⟩) n' cp) zs.length (zs.map (Value.int .i64))) (hat:(rv c).ownBlock=some b∨w.heap.size≤b):
 OwnR T1 T0 (w2.setCell ⟨g,c,none⟩ (.slice (some ⟨b,0,none⟩) n' cp)) base (.slice (some ⟨g,0,none⟩) m cap) m (fun i=>if i=c then .slice (some ⟨b,0,none⟩) n' cp else rv i) (fun i=>if i=c then zs else xs i):=by
 have hgl:=(owns_lt h.outer).2;have hap:=h.apart hT;have hgb:g≠b:=by
  rcases hat with e|e
  ·rcases hap c hc with e2|e2
   ·simp[Value.ownBlock]at e2
   ·rw[e]at e2
    simpa[Value.ownBlock]using e2
  ·omega
 have hout:w2.ownsRow base T1 1 (.slice (some ⟨g,0,none⟩) m cap) m ((List.range m).map rv):=h.outer.kept hg (hap c hc);refine⟨?_,fun i hi=> ?_,fun i j hi hj hne=> ?_⟩
 ·have h1:=(hout.stored c (.slice (some ⟨b,0,none⟩) n' cp)).1
  have e:((List.range m).map rv).set c (.slice (some ⟨b,0,none⟩) n' cp)=(List.range m).map (fun i=>if i=c then .slice (some ⟨b,0,none⟩) n' cp else rv i):=by
   apply List.ext_getElem?;intro i;by_cases e1:i=c
   ·subst e1
    simp[hc]
   ·rw[List.getElem?_set_ne (Ne.symm e1)]
    by_cases e2:i<m
    ·simp[e2,e1]
    ·simp[e2]
  rw[e]at h1;exact h1
 ·by_cases e1:i=c
  ·subst e1
   simp only[if_true];exact hn.kept (grown_set w2 g i _) (.inr (by simpa[Value.ownBlock]using Ne.symm hgb))
  ·simp only[if_neg e1]
   refine((h.row i hi).kept hg (h.inj i c hi hc e1)).kept (grown_set w2 g c _) ?_;rcases hap i hi with e2|e2
   ·simp[Value.ownBlock]at e2
   ·exact .inr (Ne.symm e2)
 ·by_cases e1:i=c
  ·by_cases e2:j=c
   ·omega
   ·simp only[if_pos e1,if_neg e2]
    right;intro e3;rcases hat with e|e
    ·rcases h.inj j c hj hc e2 with e4|e4
     ·rw[e4]at e3;simp[Value.ownBlock]at e3
     ·rw[e]at e4;exact e4 (by rw[← e3];simp[Value.ownBlock])
    ·have:=(h.row j hj).lt b (by rw[← e3];simp[Value.ownBlock])
     omega
  ·by_cases e2:j=c
   ·simp only[if_neg e1,if_pos e2]
    cases hv:(rv i).ownBlock with
    |none=>exact .inl rfl
    |some q=>
     right
     intro e3
     simp only[Value.ownBlock,Option.some.injEq]at e3
     rw[e3]at hv
     rcases hat with e|e
     ·rcases h.inj i c hi hc e1 with e4|e4
      ·rw[e4]at hv;simp at hv
      ·rw[e,hv]at e4;exact e4 rfl
     ·have:=(h.row i hi).lt b hv
      omega
   ·simp only[if_neg e1,if_neg e2];exact h.inj i j hi hj hne
end
end Go.Proofs.YtclgllmipcbagaaGreatDoor
namespace Go.Proofs.YtclgllmipcbagaaGreatDoor
set_option linter.unusedVariables false
set_option linter.unusedSimpArgs false
set_option maxRecDepth 100000
set_option maxHeartbeats 16000000
open Go.RowKit
def Adj (g:G)(a b:Nat):Prop:=a<g.n.toNat∧b<g.n.toNat∧0<btw g a b
theorem Adj.symm {g:G}{a b:Nat}(h:Adj g a b):Adj g b a:=by
 refine⟨h.2.1,h.1,?_⟩;have:=h.2.2;unfold btw at*
 rwa[Int.min_comm,Int.max_comm]
def Con (g:G)(a b:Nat):Prop:=∀P:Nat→Prop,P a→(∀ x y,P x→Adj g x y→P y)→P b
theorem Con.refl (g:G)(a:Nat):Con g a a:=fun _ h _=>h
theorem Con.step {g:G}{a b c:Nat}(h:Con g a b)(h2:Adj g b c):Con g a c:=fun P h0 hs=>hs _ _ (h P h0 hs) h2
theorem Con.trans {g:G}{a b c:Nat}(h:Con g a b)(h2:Con g b c):Con g a c:=fun P h0 hs=>h2 P (h P h0 hs) hs
theorem Con.symm {g:G}{a b:Nat}(h:Con g a b):Con g b a:=
 h (fun x=>Con g x a) (Con.refl g a) fun x y hx hxy=>((Con.refl g y).step hxy.symm).trans hx
theorem set_get (l:List Bool)(b u:Nat)(x:Bool):(l.set b x)[u]?.getD false=if b=u∧u<l.length then x else l[u]?.getD false:=by
 rw[List.getElem?_set];by_cases h:b=u
 ·subst h
  by_cases h2:b<l.length
  ·simp[h2]
  ·simp[h2]
 ·simp[h]
theorem rStp_mono (g:G)(a b u:Nat)(l:List Bool)(h:l[u]?.getD false=true):(rStp g a b l)[u]?.getD false=true:=by
 unfold rStp;split
 ·rw[set_get];split<;>first|rfl|exact h
 ·exact h
theorem rB_mono (g:G)(a u:Nat)(l:List Bool)(h:l[u]?.getD false=true):∀k,(rB g a k l)[u]?.getD false=true
 |0=>h
 |k+1=>rStp_mono g a k u _ (rB_mono g a u l h k)
theorem rA_mono (g:G)(u:Nat)(l:List Bool)(h:l[u]?.getD false=true):∀k,(rA g k l)[u]?.getD false=true
 |0=>h
 |k+1=>rB_mono g k u _ (rA_mono g u l h k) _
theorem rR_mono (g:G)(u:Nat)(l:List Bool)(h:l[u]?.getD false=true):∀k,(rR g k l)[u]?.getD false=true
 |0=>h
 |k+1=>rA_mono g u _ (rR_mono g u l h k) _
theorem rB_hit (g:G)(a b:Nat)(l:List Bool)(h:l[a]?.getD false=true)(hb:b<l.length)(hab:0<btw g a b):∀k,b<k→(rB g a k l)[b]?.getD false=true
 |0,hk=>by omega
 |k+1,hk=>by
  by_cases e:b=k
  ·subst e
   unfold rB rStp;rw[rB_mono g a a l h b];simp only[Bool.true_and,hab,decide_true,if_true];rw[set_get,rB_len];simp[hb]
  ·exact rStp_mono g a k b _ (rB_hit g a b l h hb hab k (by omega))
theorem rA_hit (g:G)(a b:Nat)(l:List Bool)(h:l[a]?.getD false=true)(hb:b<l.length)(hab:0<btw g a b)(hbn:b<g.n.toNat):∀k,a<k→(rA g k l)[b]?.getD false=true
 |0,hk=>by omega
 |k+1,hk=>by
  by_cases e:a=k
  ·subst e
   exact rB_hit g a b _ (rA_mono g a l h a) (by rw[rA_len];exact hb) hab _ hbn
  ·exact rB_mono g k b _ (rA_hit g a b l h hb hab hbn k (by omega)) _
theorem rB_sound (g:G)(v a:Nat)(l:List Bool)(hl:l.length=g.n.toNat)(h:∀u,l[u]?.getD false=true→Con g v u)(ha:a<g.n.toNat):∀k,k≤g.n.toNat→∀u,(rB g a k l)[u]?.getD false=true→Con g v u
 |0,_,u,hu=>h u hu
 |k+1,hk,u,hu=>by
  have ih:=rB_sound g v a l hl h ha k (by omega);unfold rB rStp at hu;split at hu
  ·rename_i hc
   simp only[Bool.and_eq_true,decide_eq_true_eq]at hc;rw[set_get]at hu;split at hu
   ·rename_i he
    rw[← he.1];exact(ih a hc.1).step ⟨ha,by omega,hc.2⟩
   ·exact ih u hu
  ·exact ih u hu
theorem rA_sound (g:G)(v:Nat)(l:List Bool)(hl:l.length=g.n.toNat)(h:∀u,l[u]?.getD false=true→Con g v u):∀k,k≤g.n.toNat→∀u,(rA g k l)[u]?.getD false=true→Con g v u
 |0,_,u,hu=>h u hu
 |k+1,hk,u,hu=>rB_sound g v k _ (by rw[rA_len];exact hl) (rA_sound g v l hl h k (by omega)) (by omega) _ (Nat.le_refl _) u hu
theorem rR_sound (g:G)(v:Nat)(l:List Bool)(hl:l.length=g.n.toNat)(h:∀u,l[u]?.getD false=true→Con g v u):∀k,∀u,(rR g k l)[u]?.getD false=true→Con g v u
 |0,u,hu=>h u hu
 |k+1,u,hu=>rA_sound g v _ (by rw[rR_len];exact hl) (rR_sound g v l hl h k) _ (Nat.le_refl _) u hu
theorem cnt_lt:∀l l':List Bool,l.length=l'.length→(∀ u:Nat,l[u]?.getD false=true→l'[u]?.getD false=true)→l=l'∨l.count true<l'.count true
 |[],[],_,_=> .inl rfl
 |x::l,y::l',hl,h=>by
  have ih:=cnt_lt l l' (by simpa using hl) fun u hu=>by simpa using h (u+1) (by simpa using hu)
  have h0:=h 0;simp only[xH,Option.getD_some]at h0;rcases ih with rfl|ih
  ·cases x<;>cases y<;>simp_all
  ·right
   cases x<;>cases y<;>simp_all<;>omega
theorem rR_fix (g:G)(l:List Bool)(hl:0<l.count true):∀k,rA g g.n.toNat (rR g k l)=rR g k l∨k<(rR g k l).count true
 |0=> .inr hl
 |k+1=>by
  rcases rR_fix g l hl k with h|h
  ·left;rw[rR,h,h]
  ·rcases cnt_lt (rR g k l) (rA g g.n.toNat (rR g k l)) (by rw[rA_len]) (fun u hu=>rA_mono g u _ hu _)with e|e
   ·left;rw[rR,←e,←e]
   ·right;rw[rR];omega
theorem reached_iff (g:G)(v u:Nat)(hv:v<g.n.toNat):(reached g v)[u]?.getD false=true↔Con g v u:=by
 have hlen:((List.replicate g.n.toNat false).set v true).length=g.n.toNat:=by simp
 have hself:((List.replicate g.n.toNat false).set v true)[v]?.getD false=true:=by rw[set_get];simp[hv]
 constructor
 ·intro h
  refine rR_sound g v ((List.replicate g.n.toNat false).set v true) hlen (fun x hx=> ?_) g.n.toNat u h;rw[set_get]at hx;split at hx
  ·rename_i e;rw[e.1];exact Con.refl g _
  ·simp only[List.getElem?_replicate]at hx
   split at hx<;>simp at hx
 ·intro h
  refine h (fun x=>(reached g v)[x]?.getD false=true) (rR_mono g v _ hself _) fun x y hx hxy=> ?_;have hpos:0<((List.replicate g.n.toNat false).set v true).count true:=by
   refine List.count_pos_iff.2 (List.mem_iff_getElem.2 ⟨v,by simpa using hv,by simp⟩)
  have hfix:rA g g.n.toNat (reached g v)=reached g v:=by
   rcases rR_fix g _ hpos g.n.toNat with e|e
   ·exact e
   ·have:=List.count_le_length (a:=true) (l:=rR g g.n.toNat ((List.replicate g.n.toNat false).set v true))
    rw[rR_len,hlen]at this;omega
  have:=rA_hit g x y (reached g v) hx (by rw[reached_len];exact hxy.2.1) hxy.2.2 hxy.2.1 _ hxy.1;rw[hfix]at this;exact this
theorem orTo_get (r s:List Bool)(u:Nat):∀k,k≤s.length→(orTo r k s)[u]?.getD false=(s[u]?.getD false||(decide (u<k)&&r[u]?.getD false))
 |0,_=>by simp[orTo]
 |k+1,hk=>by
  have ih:=orTo_get r s u k (by omega);unfold orTo;rw[set_get,orTo_len];by_cases e:k=u
  ·subst e
   rw[if_pos ⟨rfl,by omega⟩,ih];simp
  ·rw[if_neg (by simp[e]),ih]
   congr 2;apply decide_eq_decide.2;omega
theorem root_join (F:Nat→Nat)(hF:∀v,F v≤v)(a b v:Nat):root (joinF F a b) v=if root F v=max (root F a) (root F b)then min (root F a) (root F b)else root F v:=by
 have hJ:=joinF_le hF a b;have ha:=root_root hF a;have hb:=root_root hF b;induction v using Nat.strongRecOn with
 |ind v ih=>
  by_cases h:F v=v
  ·rw[root_fix h]
   by_cases h2:v=max (root F a) (root F b)
   ·rw[if_pos h2,root_step hJ]
    have e:joinF F a b v=min (root F a) (root F b):=by unfold joinF;rw[if_pos h2]
    rw[e];by_cases h3:min (root F a) (root F b)=max (root F a) (root F b)
    ·apply root_fix
     unfold joinF;rw[if_pos h3]
    ·apply root_fix
     unfold joinF;rw[if_neg h3];rcases Nat.le_total (root F a) (root F b)with h4|h4
     ·rw[Nat.min_eq_left h4];exact ha
     ·rw[Nat.min_eq_right h4];exact hb
   ·rw[if_neg h2]
    apply root_fix;unfold joinF;rw[if_neg h2];exact h
  ·have hlt:=hF v
   have h2:v≠max (root F a) (root F b):=by
    intro e;apply h;rcases Nat.le_total (root F a) (root F b)with h4|h4
    ·rw[e,Nat.max_eq_right h4];exact hb
    ·rw[e,Nat.max_eq_left h4];exact ha
   rw[root_step hJ];have e:joinF F a b v=F v:=by unfold joinF;rw[if_neg h2]
   rw[e,ih (F v) (by omega),←root_step hF]
theorem bet_pos (lo hi:Int):∀es:List E,(∀ x∈es,1≤x.m)→(0<bet lo hi es↔∃x∈es,x.a=lo∧x.b=hi)
 |[],_=>by simp[bet]
 |x::es,h=>by
  have ih:=bet_pos lo hi es fun y hy=>h y (by simp[hy]);have hx:=h x (by simp);unfold bet;split
  ·rename_i e
   refine⟨fun _=>⟨x,by simp,e⟩,fun _=>by omega⟩
  ·rename_i e
   rw[ih];constructor
   ·rintro⟨y,hy,e2⟩;exact⟨y,by simp[hy],e2⟩
   ·rintro⟨y,hy,e2⟩
    rcases List.mem_cons.1 hy with rfl|hy
    ·exact absurd e2 e
    ·exact⟨y,hy,e2⟩
theorem edge_adj {g:G}(h:Gok g)(k:Nat)(hk:k<g.es.length):Adj g (g.es[k]?.getD default).a.toNat (g.es[k]?.getD default).b.toNat:=by
 have he:=h.ends k hk;have hm:(g.es[k]?.getD default)∈g.es:=by simp[hk]
 refine⟨by omega,by omega,?_⟩;unfold btw;refine(bet_pos _ _ g.es fun x hx=>(h.mem hx).2.2.2.1).2 ⟨_,hm,?_,?_⟩<;>omega
theorem forest_con {g:G}(h:Gok g):∀k,k≤g.es.length→∀v,Con g (forestTo g k v) v
 |0,_,v=>Con.refl g v
 |k+1,hk,v=>by
  have ih:=forest_con h k (by omega);have hle:=forestTo_le g k;have hroot:∀v,Con g (root (forestTo g k) v) v:=by
   intro v;induction v using Nat.strongRecOn with
   |ind v ih2=>
    by_cases e:forestTo g k v=v
    ·rw[root_fix e];exact Con.refl g v
    ·have:=hle v
     rw[root_step hle];exact(ih2 _ (by omega)).trans (ih v)
  have hab:=(Con.refl g _).step (edge_adj h k (by omega));unfold forestTo joinF;split
  ·rename_i e
   rw[e];generalize (g.es[k]?.getD default).a.toNat=a at*
   generalize (g.es[k]?.getD default).b.toNat=b at*
   have hr:Con g (root (forestTo g k) a) (root (forestTo g k) b):=((hroot a).trans hab).trans (hroot b).symm;rcases Nat.le_total (root (forestTo g k) a) (root (forestTo g k) b)with h4|h4
   ·rw[Nat.min_eq_left h4,Nat.max_eq_right h4];exact hr
   ·rw[Nat.min_eq_right h4,Nat.max_eq_left h4];exact hr.symm
  ·exact ih v
theorem forest_root_con {g:G}(h:Gok g)(v:Nat):Con g (root (forestTo g g.es.length) v) v:=by
 have hle:=forestTo_le g g.es.length;induction v using Nat.strongRecOn with
 |ind v ih2=>
  by_cases e:forestTo g g.es.length v=v
  ·rw[root_fix e];exact Con.refl g v
  ·have:=hle v
   rw[root_step hle];exact(ih2 _ (by omega)).trans (forest_con h _ (Nat.le_refl _) v)
theorem forest_same {g:G}(j:Nat):∀k,j<k→root (forestTo g k) (g.es[j]?.getD default).a.toNat=root (forestTo g k) (g.es[j]?.getD default).b.toNat
 |0,hj=>by omega
 |k+1,hj=>by
  have hle:=forestTo_le g k;rw[forestTo,root_join _ hle,root_join _ hle];by_cases e:j=k
  ·subst e
   rcases Nat.le_total (root (forestTo g j) (g.es[j]?.getD default).a.toNat) (root (forestTo g j) (g.es[j]?.getD default).b.toNat)with h4|h4
   ·rw[Nat.min_eq_left h4,Nat.max_eq_right h4];split<;>simp
   ·rw[Nat.min_eq_right h4,Nat.max_eq_left h4];split<;>simp_all
  ·rw[forest_same j k (by omega)]
theorem con_root {g:G}(h:Gok g)(a b:Nat):Con g a b↔root (forestTo g g.es.length) a=root (forestTo g g.es.length) b:=by
 constructor
 ·intro hc
  refine hc (fun x=>root (forestTo g g.es.length) a=root (forestTo g g.es.length) x) rfl fun x y hx hxy=> ?_;refine hx.trans ?_;obtain⟨e,he,h1,h2⟩:=(bet_pos _ _ g.es fun x hx=>(h.mem hx).2.2.2.1).1 hxy.2.2;obtain⟨j,hj,rfl⟩:=List.mem_iff_getElem.1 he;have hs:=forest_same (g:=g) j g.es.length hj;simp only[List.getElem?_eq_getElem hj,Option.getD_some]at hs;rw[h1,h2]at hs;rcases Nat.le_total x y with h4|h4
  ·have e1:(min (x:Int) y).toNat=x:=by omega
   have e2:(max (x:Int) y).toNat=y:=by omega
   rw[e1,e2]at hs;exact hs
  ·have e1:(min (x:Int) y).toNat=y:=by omega
   have e2:(max (x:Int) y).toNat=x:=by omega
   rw[e1,e2]at hs;exact hs.symm
 ·intro e
  have h1:=forest_root_con h a;have h2:=forest_root_con h b;rw[e]at h1;exact h1.symm.trans h2
theorem forest_least {g:G}(h:Gok g)(k:Nat):forestTo g g.es.length k=k↔¬∃j,j<k∧Con g j k:=by
 have hle:=forestTo_le g g.es.length;constructor
 ·rintro e ⟨j,hj,hc⟩
  have h1:=(con_root h j k).1 hc;rw[root_fix e]at h1;have:=root_le hle j;omega
 ·intro hn
  refine Classical.byContradiction fun e=> ?_;have:=hle k;exact hn ⟨_,by omega,forest_con h _ (Nat.le_refl _) k⟩
theorem partsTo_forest {g:G}(h:Gok g):∀k,k≤g.n.toNat→(partsTo g k).1=(cr (forestTo g g.es.length) k:Int)∧∀u,u<g.n.toNat→((partsTo g k).2[u]?.getD false=true↔∃j,j<k∧Con g j u)
 |0,_=>by
  refine⟨rfl,fun u hu=> ?_⟩;simp[partsTo,hu]
 |k+1,hk=>by
  obtain⟨h1,h2⟩:=partsTo_forest h k (by omega);have hl:=forest_least h k;have h2k:=h2 k (by omega);unfold partsTo;by_cases hs:(partsTo g k).2[k]?.getD false=true
  ·rw[if_pos hs]
   obtain⟨j,hj,hjk⟩:=h2k.1 hs;have hne:forestTo g g.es.length k≠k:=fun e=>hl.1 e ⟨j,hj,hjk⟩;rw[cr_no hne];refine⟨h1,fun u hu=>(h2 u hu).trans ⟨?_,?_⟩⟩
   ·rintro⟨i,hi,hc⟩;exact⟨i,by omega,hc⟩
   ·rintro⟨i,hi,hc⟩
    by_cases e:i=k
    ·subst e;exact⟨j,hj,hjk.trans hc⟩
    ·exact⟨i,by omega,hc⟩
  ·rw[if_neg hs]
   have he:forestTo g g.es.length k=k:=hl.2 fun hx=>hs (h2k.2 hx);rw[cr_yes he];refine⟨by simp only;omega,fun u hu=> ?_⟩;simp only;rw[orTo_get _ _ _ _ (by rw[partsTo_len];exact Nat.le_refl _)];simp only[hu,decide_true,Bool.true_and,Bool.or_eq_true];rw[h2 u hu,reached_iff g k u (by omega)];constructor
   ·rintro(⟨i,hi,hc⟩|hc)
    ·exact⟨i,by omega,hc⟩
    ·exact⟨k,by omega,hc⟩
   ·rintro⟨i,hi,hc⟩
    by_cases e:i=k
    ·subst e;exact .inr hc
    ·exact .inl ⟨i,by omega,hc⟩
theorem parts_forest {g:G}(h:Gok g):parts g=(cr (forestTo g g.es.length) g.n.toNat:Int):=(partsTo_forest h _ (Nat.le_refl _)).1
theorem p_root (F:Nat→Nat)(hF:∀v,F v≤v)(b v:Nat)(hv:v<12)(w:World)(hb:Blk w b (fArr F) 418):
 Calls Tryz.prog 388 #[.pointer (some ⟨b,0,none⟩),.int .i64 v] w fun e w'=>e= .returned (.int .i64 (root F v))∧w=w':=by
 obtain⟨z,hz⟩:∃z,root F v=z:=⟨_,rfl⟩;rw[hz];have HZ:=hid hz;clear hz;have hlt:=hb.lt;go_enter Tryz.func388,Tryz.ntmps388;go_wp2;go_loopw [1] (fun i wr=>∃k:Nat,k<12∧i= .int .i64 k∧Hid (root F k=z)∧Hid (w=wr)) (fun i _=>(intOf i).toNat);case atStart=>exact⟨v,hv,rfl,HZ,rfl⟩
 case round=>
  obtain⟨k,hk,rfl,HZ,HE⟩:=hrel;obtain rfl:=HE.out;have c1:w.cell? ⟨b,k,none⟩=some (.int .i64 (F k)):=(hb.cell k).trans (fArr_get F k hk);have hk':(k:Int)<12:=by omega
  by_cases h:F k=k
  ·have hn:(((F k:Nat):Int)!=(k:Int))=false:=by simp[h]
   go_wp2;all_goals(go_ret;exact⟨ret_int (by rw[← HZ.out,root_fix h]),rfl⟩)
  ·have hn:(((F k:Nat):Int)!=(k:Int))=true:=by simp;omega
   have h2:=hF k;have h3:F k<k:=by omega
   have h4:=hid (root_step hF k);generalize F k=fk at*
   clear h;go_wp2;go_roundw;case rel=>exact⟨fk,by omega,rfl,hid (by rw[← HZ.out,h4.out]),True.intro⟩
   case measure=>simp[intOf];omega
theorem p_join (F:Nat→Nat)(hF:∀v,F v≤v)(b u v:Nat)(hu:u<12)(hv:v<12)(w:World)(hb:Blk w b (fArr F) 418):
 Calls Tryz.prog 387 #[.pointer (some ⟨b,0,none⟩),.int .i64 u,.int .i64 v] w
  fun e w'=>e= .returned (.tuple #[])∧w.setCell ⟨b,max (root F u) (root F v),none⟩ (.int .i64 ((min (root F u) (root F v):Nat):Int))=w':=by
 have hlt:=hb.lt;have hru:=root_le hF u;have hrv:=root_le hF v;have cu:w.cell? ⟨b,root F u,none⟩=some (.int .i64 (F (root F u))):=(hb.cell _).trans (fArr_get F _ (by omega));have cv:w.cell? ⟨b,root F v,none⟩=some (.int .i64 (F (root F v))):=(hb.cell _).trans (fArr_get F _ (by omega));have fu:=fun k=>hb.frozen k;have hu':(root F u:Int)<12:=by omega
 have hv':(root F v:Int)<12:=by omega
 by_cases h:root F u<root F v
 ·rw[Nat.max_eq_right (by omega),Nat.min_eq_left (by omega)]
  go_enter Tryz.func387,Tryz.ntmps387;go_wp2_with (go_at_call 388;refine(p_root F hF b _ ?_ _ hb).mono ?_;(first|exact hu|exact hv);rintro e w1 ⟨rfl,rfl⟩);go_end0;exact⟨rfl,rfl⟩
 ·rw[Nat.max_eq_left (by omega),Nat.min_eq_right (by omega)]
  have h':root F v≤root F u:=by omega
  go_enter Tryz.func387,Tryz.ntmps387;go_wp2_with (go_at_call 388;refine(p_root F hF b _ ?_ _ hb).mono ?_;(first|exact hu|exact hv);rintro e w1 ⟨rfl,rfl⟩);all_goals(go_end0;first|exact⟨rfl,rfl⟩|(refine ⟨rfl,?_⟩;rw[show root F v=root F u by omega]))
theorem results_cell1 {P:Program}{fn:Func}{k:Nat}{t:TypeId}(h:fn.results= #[.cell k t]){tmps:Array Value}{b:Nat}{v:Value}{w:World}(ht:tmps[k]?.getD undef= .pointer (some ⟨b,0,none⟩))
 (hl:(loadVar t ⟨b,0,none⟩).run P w= .ok v w):(results fn tmps).run P w= .ok v w:=by
 simp[results,h,ht,asAddr,hl]
theorem load_forest {w:World}{b:Nat}{cs:Array Value}(h:Blk w b cs 418)(hs:cs.size=12):(loadVar 418 ⟨b,0,none⟩).run Tryz.prog w= .ok (.agg cs) w:=
 run_loadVar_row _ _ 418 418 cs (0,0) _ h (by kernel_rfl:Tryz.prog.underlying 418=some (.array 12 3)) rfl (by rw[hs];kernel_rfl)
def idTo (k:Nat):Nat→Nat:=fun v=>if v<k then v else 0
theorem idTo_set (k:Nat)(hk:k<12):(fArr (idTo k)).setIfInBounds k (.int .i64 (k:Int))=fArr (idTo (k+1)):=by
 rw[fArr_set _ _ _ hk];congr 1;funext v;unfold idTo;grind
theorem p_grown (w:World):
 Calls Tryz.prog 386 #[] w fun e w'=>e= .returned (.agg (fArr fun v=>v))∧Below w.heap.size w w':=by
 have hfa:fArr (fun v=>v)= #[.int .i64 0,.int .i64 1,.int .i64 2,.int .i64 3,.int .i64 4,.int .i64 5,.int .i64 6,.int .i64 7,.int .i64 8,.int .i64 9,.int .i64 10,.int .i64 11]:=rfl;rw[hfa];clear hfa;go_enter Tryz.func386,Tryz.ntmps386;go_wp2;obtain⟨W0,hW0⟩:∃W:World,W=((w.alloc (.cells #[.int .i64 0,.int .i64 0,.int .i64 0,.int .i64 0,.int .i64 0,.int .i64 0,.int .i64 0,.int .i64 0,.int .i64 0,.int .i64 0,.int .i64 0,.int .i64 0] 418)).alloc (.cells #[.int .i64 0,.int .i64 0,.int .i64 0,.int .i64 0,.int .i64 0,.int .i64 0,.int .i64 0,.int .i64 0,.int .i64 0,.int .i64 0,.int .i64 0,.int .i64 0] 418)):=⟨_,rfl⟩
 rw[← hW0];have hb0:Blk W0 w.heap.size #[.int .i64 0,.int .i64 0,.int .i64 0,.int .i64 0,.int .i64 0,.int .i64 0,.int .i64 0,.int .i64 0,.int .i64 0,.int .i64 0,.int .i64 0,.int .i64 0] 418:=by rw[hW0];exact(Blk.new w _ _).alloc _
 have hb1:Blk W0 (w.heap.size+1) #[.int .i64 0,.int .i64 0,.int .i64 0,.int .i64 0,.int .i64 0,.int .i64 0,.int .i64 0,.int .i64 0,.int .i64 0,.int .i64 0,.int .i64 0,.int .i64 0] 418:=by rw[hW0];have:=Blk.new (w.alloc (.cells #[.int .i64 0,.int .i64 0,.int .i64 0,.int .i64 0,.int .i64 0,.int .i64 0,.int .i64 0,.int .i64 0,.int .i64 0,.int .i64 0,.int .i64 0,.int .i64 0] 418)) #[.int .i64 0,.int .i64 0,.int .i64 0,.int .i64 0,.int .i64 0,.int .i64 0,.int .i64 0,.int .i64 0,.int .i64 0,.int .i64 0,.int .i64 0,.int .i64 0] 418;simpa using this
 have hBw:Below w.heap.size w W0:=by rw[hW0];go_grown
 clear hW0;go_loopw [3] (fun i wr=>∃k:Nat,k≤12∧i= .int .i64 k∧Blk wr w.heap.size #[.int .i64 0,.int .i64 0,.int .i64 0,.int .i64 0,.int .i64 0,.int .i64 0,.int .i64 0,.int .i64 0,.int .i64 0,.int .i64 0,.int .i64 0,.int .i64 0] 418∧Blk wr (w.heap.size+1) (fArr (idTo k)) 418∧Below w.heap.size w wr) (fun i _=>12-(intOf i).toNat);case atStart=>exact⟨0,by omega,rfl,hb0,hb1,hBw⟩
 case round=>
  obtain⟨k,hk,rfl,hb0,hb1,hB⟩:=hrel;have l0:=hb0.lt;have l1:=hb1.lt;by_cases hlt:k<12
  ·have c1:wr.cell? ⟨w.heap.size+1,k,none⟩=some (.int .i64 (idTo k k)):=(hb1.cell k).trans (fArr_get _ k hlt)
   have f1:=hb1.frozen k;have hk':(k:Int)<12:=by omega
   go_wp2;go_roundw
   case rel=>
    refine⟨k+1,by omega,by go_num,hb0.other (by omega) _ _,?_,hB.setCell (by exact Nat.le_succ _) _⟩;rw[← idTo_set k hlt];exact hb1.set k _
   case measure=>simp[intOf];omega
  ·obtain rfl:k=12:=by omega
   have c1:∀i,i<12→wr.cell? ⟨w.heap.size+1,i,none⟩=some (.int .i64 i):=fun i hi=>((hb1.cell i).trans (fArr_get _ i hi)).trans (by simp[idTo,hi]);have c0:∀i,i<12→wr.cell? ⟨w.heap.size,i,none⟩=some (.int .i64 0):=fun i hi=>(hb0.cell i).trans (by rcases i with _|_|_|_|_|_|_|_|_|_|_|_|i<;>first|rfl|omega);have f0:=fun i=>hb0.frozen i;go_wp2;refine bodyPost_ret (results_cell1 rfl rfl (load_forest (cs:= #[.int .i64 0,.int .i64 1,.int .i64 2,.int .i64 3,.int .i64 4,.int .i64 5,.int .i64 6,.int .i64 7,.int .i64 8,.int .i64 9,.int .i64 10,.int .i64 11]) ?_ rfl)) rfl ⟨rfl,by go_grown⟩;exact((((((((((((hb0.set 0 _).set 1 _).set 2 _).set 3 _).set 4 _).set 5 _).set 6 _).set 7 _).set 8 _).set 9 _).set 10 _).set 11 _)
theorem p_joined (g:G)(gv:Value)(hk:Gok g)(w:World)(hg:GrR w gv g):
 Calls Tryz.prog 365 #[gv] w fun e w'=>e= .returned (.agg (fArr (forestTo g g.es.length)))∧Below w.heap.size w w':=by
 have hg':=hg;obtain⟨ev,rfl,a,cap,rfl,hcap,hcm,hlen,hc⟩:=hg';have hfa:=hid (show fArr (fun v=>v)= #[.int .i64 0,.int .i64 1,.int .i64 2,.int .i64 3,.int .i64 4,.int .i64 5,.int .i64 6,.int .i64 7,.int .i64 8,.int .i64 9,.int .i64 10,.int .i64 11]from rfl);have hend:=hid (fun k (h:k<g.es.length)=>hk.ends k h);obtain⟨_,hn12⟩:=hk.n;clear hk;go_enter Tryz.func365,Tryz.ntmps365;go_wp2_with (go_at_call 386;refine(p_grown _).mono ?_;rintro e w1 ⟨rfl,hB1⟩;rw[hfa.out];obtain⟨r1,r2⟩:=bcell hB1;have u0:=hB1.size;(simp only[World.size_alloc]at u0);have u1:w.heap.size<w1.heap.size:=(by omega));obtain⟨W0,hW0⟩:∃W:World,W=w1.alloc (.cells #[.int .i64 0,.int .i64 1,.int .i64 2,.int .i64 3,.int .i64 4,.int .i64 5,.int .i64 6,.int .i64 7,.int .i64 8,.int .i64 9,.int .i64 10,.int .i64 11] 418):=⟨_,rfl⟩
 rw[← hW0];have hb3:Blk W0 w1.heap.size (fArr (forestTo g 0)) 418:=by rw[hW0];exact Blk.new w1 _ _
 have hb2:Blk W0 (w.heap.size+1) #[.int .i64 0,.int .i64 0,.int .i64 0,.int .i64 0,.int .i64 0,.int .i64 0,.int .i64 0,.int .i64 0,.int .i64 0,.int .i64 0,.int .i64 0,.int .i64 0] 418:=by
  rw[hW0];have:=Blk.new (w.alloc (.cells #[.int .i64 g.n,.slice a g.es.length cap] 28)) #[.int .i64 0,.int .i64 0,.int .i64 0,.int .i64 0,.int .i64 0,.int .i64 0,.int .i64 0,.int .i64 0,.int .i64 0,.int .i64 0,.int .i64 0,.int .i64 0] 418;exact(Blk.below (by simpa using this) hB1).alloc _
 have hBw:Below w.heap.size w W0:=by rw[hW0];exact(up (by go_grown) hB1).alloc (by omega) _
 clear hW0 r1 r2 hB1;have hne:w.heap.size+1≠w1.heap.size:=by omega
 have hge:w.heap.size≤w1.heap.size:=by omega
 generalize w1.heap.size=B3 at*
 go_loopw [10] (fun i wr=>∃k:Nat,k≤g.es.length∧i= .int .i64 k∧Blk wr B3 (fArr (forestTo g k)) 418∧Blk wr (w.heap.size+1) #[.int .i64 0,.int .i64 0,.int .i64 0,.int .i64 0,.int .i64 0,.int .i64 0,.int .i64 0,.int .i64 0,.int .i64 0,.int .i64 0,.int .i64 0,.int .i64 0] 418∧Below w.heap.size w wr) (fun i _=>g.es.length-(intOf i).toNat);case atStart=>exact⟨0,by omega,rfl,hb3,hb2,hBw⟩
 case round=>
  obtain⟨k,hk,rfl,hb3,hb2,hB⟩:=hrel;have l2:=hb2.lt;have l3:=hb3.lt;by_cases hlt:k<g.es.length
  ·obtain⟨b,off,rfl,hb,hc⟩:=(hc.below hB).edge (by omega)
   obtain⟨q1,q2,q3⟩:=hc k hlt;clear hc;obtain⟨e1,e2,e3,_,_⟩:=hend.out k hlt;have hstep:Hid (forestTo g (k+1)=joinF (forestTo g k) (g.es[k]?.getD default).a.toNat (g.es[k]?.getD default).b.toNat):=rfl;generalize g.es[k]?.getD default=x at*
   obtain⟨xa,xb,xm⟩:=x;dsimp only at*
   obtain⟨A,rfl⟩:∃A:Nat,xa=A:=⟨xa.toNat,by omega⟩;obtain⟨B,rfl⟩:∃B:Nat,xb=B:=⟨xb.toNat,by omega⟩;have hb':∀j,b<wr.heap.size+j:=fun j=>by omega
   have hA:A<12:=by omega
   have hBB:B<12:=by omega
   have hj:Hid (∀ w2,(wr.alloc (.cells #[.int .i64 A,.int .i64 B,.int .i64 xm] 150)).setCell ⟨B3,max (root (forestTo g k) A) (root (forestTo g k) B),none⟩ (.int .i64 ((min (root (forestTo g k) A) (root (forestTo g k) B):Nat):Int))=w2→
    Blk w2 B3 (fArr (forestTo g (k+1))) 418∧Blk w2 (w.heap.size+1) #[.int .i64 0,.int .i64 0,.int .i64 0,.int .i64 0,.int .i64 0,.int .i64 0,.int .i64 0,.int .i64 0,.int .i64 0,.int .i64 0,.int .i64 0,.int .i64 0] 418∧Below w.heap.size w w2):=by
    rintro w2 rfl;refine⟨?_,(hb2.alloc _).other hne _ _,(hB.alloc (by omega) _).setCell hge _⟩;rw[hstep.out];have h1:=(hb3.alloc (.cells #[.int .i64 A,.int .i64 B,.int .i64 xm] 150)).set (max (root (forestTo g k) A) (root (forestTo g k) B)) (.int .i64 ((min (root (forestTo g k) A) (root (forestTo g k) B):Nat):Int));rw[fArr_set _ _ _ (by have:=root_le (forestTo_le g k) A;have:=root_le (forestTo_le g k) B;omega)]at h1;exact h1
   go_wp2_with (go_at_call 387;refine(p_join (forestTo g k) (forestTo_le g k) B3 A B hA hBB _ (hb3.alloc _)).mono ?_;rintro e w2 ⟨rfl,hw2⟩;obtain⟨j1,j2,j3⟩:=hj.out w2 hw2;clear hw2);go_roundw
   case rel=>
    exact⟨k+1,by omega,by go_num,j1,j2,j3⟩
   case measure=>simp[intOf];omega
  ·obtain rfl:k=g.es.length:=by omega
   clear hend hfa;obtain⟨F,hF⟩:∃F,F=forestTo g g.es.length:=⟨_,rfl⟩;rw[← hF]at hb3;have HF:=hid hF;clear hF;have c1:=fun i (hi:i<12)=>(hb3.cell i).trans (fArr_get _ i hi);have c0:∀i,i<12→wr.cell? ⟨w.heap.size+1,i,none⟩=some (.int .i64 0):=fun i hi=>(hb2.cell i).trans (by rcases i with _|_|_|_|_|_|_|_|_|_|_|_|i<;>first|rfl|omega);have f0:=fun i=>hb2.frozen i;go_wp2;refine bodyPost_ret (results_cell1 rfl rfl (load_forest (cs:=fArr F) ?_ rfl)) rfl ⟨by rw[HF.out],by go_grown⟩;have h:=((((((((((((hb2.set 0 (.int .i64 (F 0))).set 1 (.int .i64 (F 1))).set 2 (.int .i64 (F 2))).set 3 (.int .i64 (F 3))).set 4 (.int .i64 (F 4))).set 5 (.int .i64 (F 5))).set 6 (.int .i64 (F 6))).set 7 (.int .i64 (F 7))).set 8 (.int .i64 (F 8))).set 9 (.int .i64 (F 9))).set 10 (.int .i64 (F 10))).set 11 (.int .i64 (F 11)))
   simp only[xM,xJ,xK]at h;unfold fArr;exact h
end Go.Proofs.YtclgllmipcbagaaGreatDoor
namespace Go.Proofs.YtclgllmipcbagaaGreatDoor
set_option linter.unusedVariables false
set_option linter.unusedSimpArgs false
set_option maxRecDepth 100000
set_option maxHeartbeats 16000000
open Go.RowKit Go.Maps
theorem Tryz.underIntT:Tryz.prog.underlying 3=some (.int .i64):=by kernel_rfl
theorem Tryz.underPlace:Tryz.prog.underlying 447=some (.map 3 3):=by kernel_rfl
theorem Tryz.lawInt:Keyed Tryz.prog 3:=int_keyed Tryz.underIntT
theorem Tryz.zeroInt (w:World):(zeroValue 3).run Tryz.prog w= .ok (.int .i64 0) w:=by kernel_rfl
def RetLen (w:World)(m:Nat)(e:Ending)(w':World):Prop:=Below w.heap.size w w'∧∃a c,e= .returned (.slice a m c)
theorem p_parts (F:Nat→Nat)(hF:∀v,F v≤v)(b N:Nat)(hN:N≤12)(w:World)(hb:Blk w b (fArr F) 418):
 Calls Tryz.prog 366 #[.pointer (some ⟨b,0,none⟩),.int .i64 N] w (RetLen w (cr F N)):=by
 have hmm:= @run_makeMap Tryz.prog;have hblt:=hb.lt;obtain⟨i0,hi,hz0,hz1,hz2⟩:=info_parts Tryz.infoRow;obtain⟨i1,hj,hy0,hy1,hy2⟩:=info_parts Tryz.infoInt;go_enter Tryz.func366,Tryz.ntmps366;go_wp2
 go_loopw [5,11] (fun t i wr=>∃(k:Nat) (rv:Nat→Value) (xs:Nat→List Int),k≤N∧i= .int .i64 k∧OwnR 29 3 wr (w.heap.size+1) t (cr F k) rv xs∧(∀ i,i<cr F k→(xs i).length≤k)∧
  wr.ownsMap Tryz.prog 3 (plainElem Tryz.prog 3) w.heap.size k (plD F k)∧Below w.heap.size w wr)
  (fun _ i _=>N-(intOf i).toNat)
 case atStart=>exact⟨0,fun _=> .slice none 0 0,fun _=>[],Nat.zero_le _,rfl,OwnR.zero _ _ _ _ _ _,fun i h=>by simp[cr]at h,World.ownsMap_made _ _ _ _,(Below.refl _ _).alloc (Nat.le_refl _) _⟩
 case round=>
  obtain⟨k,rv,xs,hk,rfl,hR,hxs,hown,hB⟩:=hrel;obtain⟨ao,co,rfl⟩:=owns_slice hR.outer;by_cases hlt:k<N
  ·have hbr:=hb.below hB
   have hkk:=hid (p_root F hF b k (by omega) wr hbr);go_upto_if 19 with (go_at_call 388;refine hkk.out.mono ?_;rintro e w1 ⟨rfl,rfl⟩)
   go_cut [5] (fun t wx=>∃(rv:Nat→Value) (xs:Nat→List Int),OwnR 29 3 wx (w.heap.size+1) t (cr F (k+1)) rv xs∧(∀ i,i<cr F (k+1)→(xs i).length≤k)∧
    wx.ownsMap Tryz.prog 3 (plainElem Tryz.prog 3) w.heap.size (k+1) (plD F (k+1))∧Below w.heap.size w wx)
   case first=>
    have hcr:=cr_le F k;by_cases hfk:F k=k
    ·have hrt:Hid (root F k=k):=root_fix hfk
     have hbo:∀q,(Value.slice ao (cr F k) co).ownBlock=some q→w.heap.size+1≤q:=fun q hq=>(hR.outer.lt q hq).1;have hgo1:∀w1,wr.grownBy w1 (some w.heap.size)→OwnR 29 3 w1 (w.heap.size+1) (.slice ao (cr F k) co) (cr F k) rv xs:=fun w1 hg=>by
      refine hR.kept hg (.inr fun e=> ?_) (fun i hi=> .inr fun e=> ?_)
      ·have:=hbo _ e;omega
      ·have:=((hR.row i hi).lt _ e).1;omega
     have heq:((root F k:Int)==(k:Int))=true:=by rw[hrt.out];simp
     have hwl:=hown.lt
     go_wp2_with (first
      |(at_mapUpdate;refine wpList_mapUpdate_own _ rfl _ _ _ 447 rfl 3 3 Tryz.lawInt Tryz.underPlace _ w.heap.size k _ rfl hown (by unfold maxLen;omega) _ _ _ rfl rfl (keyOf_int_mk Tryz.underIntT (WalkArith.wf_i64 (by omega))) _ [] (plainElem_int Tryz.underIntT (WalkArith.wf_i64 (by omega))) ?_;intro w1 hown1 hgrow1;have hR1:=hgo1 w1 hgrow1;have hs1:=hgrow1.size)
      |(at_builtin;refine wpList_append_own _ rfl (.tmp 24) (.tmp 25) 244 rfl (w.heap.size+1) 29 i0 (.slice none 0 0) 1 24 Tryz.underMat hi hz0 hz1 hz2 rfl (by decide) _ (cr F k) _ rfl (hR1.outer.alloc _) ⟨w1.heap.size,0,none⟩ 1 1 [.slice none 0 0] rfl rfl (cell_one_new _ _ _) (by simp[Value.oneCell']) (by unfold maxLen;omega) (by omega) (by simp;omega) ?_;intro v' w2 hown2 hgr2 _))
     go_meet;have hsB:=hB.size;have hs2:=hgr2.size;simp only[World.size_alloc]at hs2;rw[cr_yes hfk,plD_yes hfk];refine⟨_,_,(hR1.below ((Below.refl _ _).alloc (Nat.le_refl _) _)).snoc hgr2 (by decide) (by omega) hown2,fun i hi=> ?_,(hown1.alloc _).kept hgr2 (fun e=> ?_),?_⟩
     ·split
      ·rename_i h;exact hxs i h
      ·simp
     ·have:=hbo _ e.symm;omega
     ·exact((hB.grown hgrow1 hsB (fun j hj=>by cases hj;exact Nat.le_refl _)).alloc (by omega) _).grown hgr2 (by simp;omega) (fun q hq=>by have:=hbo q hq;omega)
    ·have hlt2:F k<k:=by have:=hF k;omega
     have hrk:root F k<k:=by
      rw[root_step hF];have:=root_le hF (F k);omega
     have heq:((root F k:Int)==(k:Int))=false:=by simp;omega
     go_wp2;go_meet;rw[cr_no hfk,plD_no hfk];exact⟨rv,xs,hR,hxs,hown.mono (Nat.le_succ _),hB⟩
   case rest=>
    obtain⟨rv,xs,hR,hxs,hown,hB⟩:=hcut;obtain⟨W1,rfl⟩:∃W:World,W=wc:=⟨_,rfl⟩;obtain⟨r,hr⟩:∃r,r=root F k:=⟨_,rfl⟩;rw[← hr];have hrF:F r=r:=by rw[hr];exact root_root hF k
    have hrk:r≤k:=by rw[hr];exact root_le hF k
    have hcm:cr F r<cr F (k+1):=cr_lt F r (k+1) (by omega) hrF;have hm12:=cr_le F (k+1);obtain⟨go,gc,hgo⟩:=owns_some hR.outer (by omega);have hlook:Hid (∀ w',w'.ownsMap Tryz.prog 3 (plainElem Tryz.prog 3) w.heap.size (k+1) (plD F (k+1))→(Instr.lookup 447 (.map (some w.heap.size)) (.int .i64 r) false).run Tryz.prog w'= .ok (.int .i64 (cr F r)) w'):=fun w' h=>by
     obtain⟨c,hrun,hat,_⟩:=h.lookup_int Tryz.lawInt Tryz.underPlace Tryz.underIntT (Tryz.zeroInt _) (keyOf_int_mk Tryz.underIntT (WalkArith.wf_i64 (n:=(r:Int)) (by omega)));rw[plD_at F r hrF (by omega) (k+1) (by omega)]at hat;simp at hat;rw[hat];exact hrun
    have hrow:=hR.row _ hcm;have hx12:=hxs _ hcm;obtain⟨ar,cc,hrv⟩:=owns_slice hrow;generalize cr F r=c at*
    generalize hmm':cr F (k+1)=m at*
    obtain⟨rfl,hgo1,hgo2⟩:=hgo;have hcell:W1.cell? ⟨go,c,none⟩=some (.slice ar (xs c).length cc):=by rw[hR.outer.cellAt c (by omega)];simp[hcm,hrv]
    have hfr:W1.frozen? ⟨go,c,none⟩=false:=hR.outer.frozenAt c;have hcm':(c:Int)<(m:Int):=by omega
    have hc0:(0:Int)≤(c:Int):=by omega
    have hl0:=hlook.out W1 hown;have HR:=hid hR;have HX:=hid hxs;have HROW:=hid hrow;have HB:=hid hB;have HO:=hid hown;clear hR hxs hrow hB;go_upto_region 10 with fail;let S:World→Prop:=fun w'=>w'.ownsMap Tryz.prog 3 (plainElem Tryz.prog 3) w.heap.size (k+1) (plD F (k+1))∧w'.cell? ⟨go,c,none⟩=some (.slice ar (xs c).length cc)
    (refine wp_region_text 13 [0,1,2,3,4,5,6,7,8,9,10,11,12] S (by kernel_rfl) (by kernel_rfl) (by intro _ _ d _ _ h;cases d<;>exact h) ?hS ?_;rotate_left;simp only[xA,xB,xC,xD,xE,xF]);case hS=>exact⟨hown,hcell⟩
    (refine' wpSeq_take rfl _ (by rfl) ?_ ?_;rotate_left;focus(intro w' hS;(try dsimp only at hS);obtain⟨s1,s2⟩:=hS;go_simp;(first|done|with_reducible rfl));(try go_frame));(refine' wpSeq_take rfl _ (by rfl) ?_ ?_;rotate_left;focus(intro w' hS;(try dsimp only at hS);obtain⟨s1,s2⟩:=hS;go_simp;(first|done|with_reducible rfl));(try go_frame));(refine' wpSeq_take rfl _ (by rfl) ?_ ?_;rotate_left;focus(intro w' hS;(try dsimp only at hS);obtain⟨s1,s2⟩:=hS;go_simp;(first|done|with_reducible rfl));(try go_frame));(refine' wpSeq_take rfl (.int .i64 c) (by rfl) ?_ ?_;focus(intro w' hS;obtain⟨s1,s2⟩:=hS;have s3:=hlook.out w' s1;go_simp;rw[← hr,s3];rfl);(try go_frame))
    (refine' wpSeq_take rfl _ (by rfl) ?_ ?_;rotate_left;focus(intro w' hS;(try dsimp only at hS);obtain⟨s1,s2⟩:=hS;go_simp;(first|done|with_reducible rfl));(try go_frame));(refine' wpSeq_take rfl _ (by rfl) ?_ ?_;rotate_left;focus(intro w' hS;(try dsimp only at hS);obtain⟨s1,s2⟩:=hS;go_simp;(first|done|with_reducible rfl));(try go_frame));(refine' wpSeq_take rfl _ (by rfl) ?_ ?_;rotate_left;focus(intro w' hS;(try dsimp only at hS);obtain⟨s1,s2⟩:=hS;go_simp;(first|done|with_reducible rfl));(try go_frame));(refine' wpSeq_take rfl (.int .i64 c) (by rfl) ?_ ?_;focus(intro w' hS;obtain⟨s1,s2⟩:=hS;have s3:=hlook.out w' s1;go_simp;rw[← hr,s3];rfl);(try go_frame))
    (repeat ((refine' wpSeq_take rfl _ (by rfl) ?_ ?_;rotate_left;focus(intro w' hS;(try dsimp only at hS);obtain⟨s1,s2⟩:=hS;go_simp;(first|done|with_reducible rfl));(try go_frame));(try go_frame)));have hkcell:Below W1.heap.size W1 (W1.alloc (.cells #[.int .i64 k] 3)):=(Below.refl _ _).alloc (Nat.le_refl _) _;have hS2:S (W1.alloc (.cells #[.int .i64 k] 3)).drew:=⟨(hown.alloc _).drew,(hkcell.cell (p:=⟨go,c,none⟩) hgo2).trans hcell⟩;refine wpSeq_call rfl (by rfl) (fun K hK=> ?_);go_simp;refine hK _ _ hS2 ?_;clear hK K;(try go_frame);have hrow':((W1.alloc (.cells #[.int .i64 k] 3)).drew).ownsRow (w.heap.size+1) 3 1 (.slice ar (xs c).length cc) (xs c).length ((xs c).map (Value.int .i64)):=by
     have h:=HROW.out;rw[hrv]at h;exact h.alloc _
    have hsB:=HB.out.size;refine wpSeq_call rfl (by rfl) (fun K hK=> ?_);refine wp_append_lies _ (.tmp 36) (.tmp 38) 29 rfl (w.heap.size+1) 3 i1 (.int .i64 0) 1 8 Tryz.underInts hj hy0 hy1 hy2 rfl (by decide) (.slice ar (xs c).length cc) (xs c).length _ rfl hrow' ⟨W1.heap.size,0,none⟩ 1 1 [.int .i64 k] rfl rfl (cell_one_new _ _ _) (by simp[Value.oneCell']) (by omega) (by unfold maxLen;omega) (by omega) (by simp;omega) _ rfl ?_;intro bn cn w2 hown2 hgr2 hat hlt2;have hR1:OwnR 29 3 (W1.alloc (.cells #[.int .i64 k] 3)).drew (w.heap.size+1) (.slice (some ⟨go,0,none⟩) m gc) m rv xs:=HR.out.below hkcell.drew
    have hg':((W1.alloc (.cells #[.int .i64 k] 3)).drew).grownBy w2 (rv c).ownBlock:=by rw[hrv];exact hgr2
    have hat':(rv c).ownBlock=some bn∨((W1.alloc (.cells #[.int .i64 k] 3)).drew).heap.size≤bn:=by
     rw[hrv];rcases hat with e|e
     ·exact .inl e
     ·exact .inr (Nat.le_of_eq e.symm)
    have hput:=hR1.put (zs:=xs c++[(k:Int)]) (by decide) hcm hg' (by rw[List.length_append,List.map_append];exact hown2) hat';have hc2:w2.cell? ⟨go,c,none⟩=some (.slice ar (xs c).length cc):=by
     rw[(hR1.outer.kept hg' (hR1.apart (by decide) c hcm)).cellAt c (by simpa using hcm)];simp[hcm,hrv]
    have hfr2:w2.frozen? ⟨go,c,none⟩=false:=(hR1.outer.kept hg' (hR1.apart (by decide) c hcm)).frozenAt c;have hm2:w2.ownsMap Tryz.prog 3 (plainElem Tryz.prog 3) w.heap.size (k+1) (plD F (k+1)):=by
     refine((hown.alloc _).drew).kept hgr2 (fun e=> ?_);have:=(hrow'.lt _ e.symm).1;omega
    have HP:=hid hput;have HG:=hid hgr2;have HM:=hid hm2;clear hput hgr2 hR1 hg' hat' hown2 hat;refine hK _ _ ⟨hm2,hc2⟩ ?_;clear hK K hm2;(try go_frame);refine wpSeq_nil ?_;clear hS2 S;go_wp2;go_roundw;have hne:w.heap.size≠go:=by omega
    refine⟨k+1,_,_,hlt,rfl,by rw[hmm'];exact HP.out,fun i hi=> ?_,HM.out.setCell hne _,?_⟩
    ·split
     ·simp;omega
     ·rw[hmm']at hi
      have:=HX.out i hi;omega
    ·refine((HB.out.alloc hsB _).drew.grown HG.out (by simp;omega) (fun q hq=> ?_)).setCell (by simp;omega) _
     have:=(hrow'.lt _ hq).1;omega
    ·show N-((k:Int)+1).toNat<N-(k:Int).toNat
     omega
  ·obtain rfl:k=N:=by omega
   go_wp2;go_ret;exact⟨hB,ao,co,rfl⟩
def RetLenE (w:World)(z:Int)(m:Nat)(e:Ending)(w':World):Prop:=Below w.heap.size w w'∧∃a m' c,e= .returned (.tuple #[.slice a m' c,.int .i64 z])∧(z=0→m'=m)
theorem p_Components (g:G)(gv:Value)(w:World)(hg:GrR w gv g):
 Calls Tryz.prog 328 #[gv] w (RetLenE w (checkErr g) (parts g).toNat):=by
 have hg':=hg;obtain⟨ev,rfl,_⟩:=hg';have hW:Below w.heap.size w (w.alloc (.cells #[.int .i64 g.n,ev] 28)):=by go_grown
 have hgr:=hid (hg.below hW);by_cases hc:checkErr g=0
 case neg=>
  have hb:(checkErr g !=0)=true:=by simpa using hc
  have HC:=hid hc;clear hc;go_enter Tryz.func328,Tryz.ntmps328;go_wp2_with (go_at_call 103;refine(p_Check g _ _ hgr.out).mono ?_;rintro e w1 ⟨rfl,hB1⟩;obtain⟨r1,r2⟩:=bcell hB1);go_ret2;exact⟨up hW hB1,_,_,_,rfl,fun h=>absurd h HC.out⟩
 have hb:(checkErr g !=0)=false:=by simpa using hc
 have hk:Hid (Gok g):=hc;have hpf:=parts_forest hk.out;obtain⟨hn1,hn2⟩:=hk.out.n;obtain⟨N,hN,hN2⟩:∃N:Nat,g.n=N∧N≤12:=⟨g.n.toNat,by omega,by omega⟩;have hm:(parts g).toNat=cr (forestTo g g.es.length) N:=by rw[hpf,hN];simp
 rw[hm,hc];clear hc hm hpf;have hle:=hid (forestTo_le g g.es.length);have hj:=hid (p_joined g (.agg #[.int .i64 g.n,ev]) hk.out);have HN:=hid hN;clear hN;generalize forestTo g g.es.length=F at*
 obtain⟨x0,x1,x2,x3,x4,x5,x6,x7,x8,x9,x10,x11,hfa⟩:∃x0 x1 x2 x3 x4 x5 x6 x7 x8 x9 x10 x11:Int,Hid (fArr F= #[.int .i64 x0,.int .i64 x1,.int .i64 x2,.int .i64 x3,.int .i64 x4,.int .i64 x5,.int .i64 x6,.int .i64 x7,.int .i64 x8,.int .i64 x9,.int .i64 x10,.int .i64 x11]):=⟨_,_,_,_,_,_,_,_,_,_,_,_,rfl⟩;go_enter Tryz.func328,Tryz.ntmps328
 go_wp2_with (first
  |(go_at_call 103;refine(p_Check g _ _ hgr.out).mono ?_;rintro e w1 ⟨rfl,hB1⟩;obtain⟨r1,r2⟩:=bcell hB1;have hs1:=hB1.size;(simp only[World.size_alloc]at hs1))
  |(go_at_call 365;refine(hj.out _ (hgr.out.below hB1)).mono ?_;rintro e w2 ⟨rfl,hB2⟩;rw[hfa.out];obtain⟨r3,r4⟩:=bcell hB2;have hs2:=hB2.size;have u1:w.heap.size<w1.heap.size:=(by omega);have u2:w.heap.size<w2.heap.size:=(by omega))
  |(go_at_call 366;rw[HN.out];refine(p_parts F hle.out _ N hN2 _ (by rw[hfa.out];exact Blk.new w2 _ _)).mono ?_;rintro e w3 ⟨hB3,a3,c3,rfl⟩))
 go_ret2;exact⟨up ((up (up hW hB1) hB2).alloc (by omega) _) hB3,_,_,_,rfl,fun _=>rfl⟩
def RetConn (w:World)(g:G)(e:Ending)(w':World):Prop:=Below w.heap.size w w'∧∃b,e= .returned (.tuple #[.bool b,.int .i64 (checkErr g)])∧(checkErr g=0→b=(parts g==1))
theorem p_Connected (g:G)(gv:Value)(w:World)(hg:GrR w gv g):
 Calls Tryz.prog 262 #[gv] w (RetConn w g):=by
 have hg':=hg;obtain⟨ev,rfl,_⟩:=hg';have hW:Below w.heap.size w (w.alloc (.cells #[.int .i64 g.n,ev] 28)):=by go_grown
 have hgr:=hid (hg.below hW);have hp:=hid (partsTo_bd g g.n.toNat);have hC:=hid (p_Components g (.agg #[.int .i64 g.n,ev]));go_enter Tryz.func262,Tryz.ntmps262;go_wp2_with (go_at_call 328;refine(hC.out _ hgr.out).mono ?_;rintro e w1 ⟨hB1,a1,m1,c1,rfl,hm1⟩;have HM:=hid hm1;clear hm1;obtain⟨r1,r2⟩:=bcell hB1);go_ret2;refine⟨up hW hB1,((m1:Int)==1),rfl,fun h=> ?_⟩;have h2:=HM.out h;have h3:=hp.out.1;rw[h2];unfold parts at*
 apply Bool.eq_iff_iff.2;simp only[beq_iff_eq];omega
theorem p_rooted (g:G)(gv:Value)(q:Int)(w:World)(hg:GrR w gv g):
 Calls Tryz.prog 322 #[gv,.int .i64 q] w fun e w'=>e= .returned (.int .i64 (rootedErr g q))∧Below w.heap.size w w':=by
 have hg':=hg;obtain⟨ev,rfl,_⟩:=hg';have hW:Below w.heap.size w (w.alloc (.cells #[.int .i64 g.n,ev] 28)):=by go_grown
 have hgr:=hid (hg.below hW);generalize hz:rootedErr g q=z;unfold rootedErr at hz;by_cases hc:checkErr g=0
 case neg=>
  rw[if_pos hc]at hz;subst hz;have hb:(checkErr g !=0)=true:=by simpa using hc
  clear hc;go_enter Tryz.func322,Tryz.ntmps322;go_wp2_with (go_at_call 262;refine(p_Connected g _ _ hgr.out).mono ?_;rintro e w1 ⟨hB1,b1,rfl,hm1⟩;have HM:=hid hm1;clear hm1;obtain⟨r1,r2⟩:=bcell hB1);go_ret;exact⟨rfl,up hW hB1⟩
 rw[if_neg (by simpa using hc)]at hz;have hb:(checkErr g !=0)=false:=by simpa using hc
 have HC:=hid hc;clear hc;by_cases hp:parts g=1
 case neg=>
  rw[if_pos hp]at hz;subst hz;have hb2:(parts g==1)=false:=by simpa using hp
  clear hp;go_enter Tryz.func322,Tryz.ntmps322;go_wp2_with (go_at_call 262;refine(p_Connected g _ _ hgr.out).mono ?_;rintro e w1 ⟨hB1,b1,rfl,hm1⟩;obtain rfl:b1=false:=(hm1 HC.out).trans hb2;clear hm1;obtain⟨r1,r2⟩:=bcell hB1);go_ret;exact⟨rfl,up hW hB1⟩
 rw[if_neg (by simpa using hp)]at hz;have hb2:(parts g==1)=true:=by simpa using hp
 clear hp;have HZ:=hid hz;clear hz;go_enter Tryz.func322,Tryz.ntmps322;go_wp2_with (go_at_call 262;refine(p_Connected g _ _ hgr.out).mono ?_;rintro e w1 ⟨hB1,b1,rfl,hm1⟩;obtain rfl:b1=true:=(hm1 HC.out).trans hb2;clear hm1;obtain⟨r1,r2⟩:=bcell hB1);all_goals(go_ret;refine⟨ret_int ?_,up hW hB1⟩;have hz:=HZ.out;clear HZ;unfold vtx at hz;grind)
theorem p_stCheck (g:G)(gv:Value)(q:Int)(ds:List Int)(dv:Value)(w:World)(hg:GrR w gv g)(hd:IntsR w dv ds):
 Calls Tryz.prog 259 #[gv,.int .i64 q,dv] w fun e w'=>e= .returned (.int .i64 (cfgErr g q ds))∧Below w.heap.size w w':=by
 have hg':=hg;obtain⟨ev,rfl,_⟩:=hg';have hd':=hd;obtain⟨a,cap,rfl,hcap,hcm,hlen,hc⟩:=hd';generalize hz:cfgErr g q ds=z;unfold cfgErr at hz;have hW:Below w.heap.size w (w.alloc (.cells #[.int .i64 g.n,ev] 28)):=by go_grown
 have hgr:=hid (hg.below hW);have hdr:=hid (hd.below hW);by_cases hr:rootedErr g q=0
 case neg=>
  rw[if_pos hr]at hz;subst hz;have hb:(rootedErr g q !=0)=true:=by simpa using hr
  clear hr;go_enter Tryz.func259,Tryz.ntmps259;go_wp2_with (go_at_call 322;refine(p_rooted g _ _ _ hgr.out).mono ?_;rintro e w1 ⟨rfl,hB1⟩;obtain⟨r1,r2⟩:=bcell hB1);go_ret;exact⟨rfl,up hW hB1⟩
 rw[if_neg (by simpa using hr)]at hz;have hb:(rootedErr g q !=0)=false:=by simpa using hr
 obtain⟨hk,hq0,hqn⟩:=rooted_ok hr;clear hr;by_cases hde:dErr ds g.n=0
 case neg=>
  rw[if_pos hde]at hz;subst hz;have hb2:(dErr ds g.n !=0)=true:=by simpa using hde
  clear hde;go_enter Tryz.func259,Tryz.ntmps259
  go_wp2_with (first
   |(go_at_call 322;refine(p_rooted g _ _ _ hgr.out).mono ?_;rintro e w1 ⟨rfl,hB1⟩;obtain⟨r1,r2⟩:=bcell hB1)
   |(go_at_call 104;refine(p_chips ds _ _ _ (hdr.out.below hB1)).mono ?_;rintro e w2 ⟨rfl,rfl⟩))
  go_ret;exact⟨rfl,up hW hB1⟩
 rw[if_neg (by simpa using hde)]at hz;have hb2:(dErr ds g.n !=0)=false:=by simpa using hde
 obtain⟨hn1,hn2,hl,_⟩:=dErr_ok hde;have HL:=hid hl;have HZ:=hid hz;clear hz hl hde;go_enter Tryz.func259,Tryz.ntmps259
 go_wp2_with (first
  |(go_at_call 322;refine(p_rooted g _ _ _ hgr.out).mono ?_;rintro e w1 ⟨rfl,hB1⟩;obtain⟨r1,r2⟩:=bcell hB1)
  |(go_at_call 104;refine(p_chips ds _ _ _ (hdr.out.below hB1)).mono ?_;rintro e w2 ⟨rfl,rfl⟩))
 go_loop [26] (fun i=>∃k:Nat,k≤g.n.toNat∧i= .int .i64 k∧Hid ((if anyFrom (debtAt q ds) k (g.n.toNat-k)then(2:Int)else 0)=z))
  (fun i=>g.n.toNat-(intOf i).toNat)
 case atStart=>exact⟨0,Nat.zero_le _,rfl,HZ⟩
 case round=>
  obtain⟨k,hkn,rfl,HZ⟩:=hrel;by_cases hlt:k<g.n.toNat
  ·have hlt2:k<ds.length:=by have:=HL.out;omega
   have hlt':(k:Int)<(ds.length:Int):=by omega
   obtain⟨b,off,rfl,hb',hcc⟩:=(hc.below (up hW hB1)).int (by omega);have c1:=hcc k hlt2;clear hcc hc;have HS:=hid (anyFrom_step (debtAt q ds) k g.n.toNat hlt);have HD:Hid (debtAt q ds k=(decide ((k:Int)≠q)&&decide (ds[k]?.getD 0<0))):=rfl;generalize ds[k]?.getD 0=x at*
   by_cases hv:(k:Int)=q
   ·have hv2:((k:Int)!=q)=false:=by simpa using hv
    have hd0:debtAt q ds k=false:=by rw[HD.out];simp[hv]
    clear hv;go_wp2;go_round;case rel=>exact⟨k+1,by omega,by go_num,hid (by have:=HZ.out;rw[HS.out,hd0]at this;simpa using this)⟩
    case measure=>simp[intOf];omega
   ·by_cases hx:x<0
    ·have hd0:debtAt q ds k=true:=by rw[HD.out];simp[hv,hx]
     go_wp2;go_ret;exact⟨ret_int (by have:=HZ.out;rw[HS.out,hd0]at this;simpa using this),up hW hB1⟩
    ·have hd0:debtAt q ds k=false:=by rw[HD.out];simp[hx]
     go_wp2;go_round;case rel=>exact⟨k+1,by omega,by go_num,hid (by have:=HZ.out;rw[HS.out,hd0]at this;simpa using this)⟩
     case measure=>simp[intOf];omega
  ·have hlt':¬(k:Int)<(ds.length:Int):=by have:=HL.out;omega
   go_wp2;go_ret;exact⟨ret_int (by have:=HZ.out;rw[anyFrom_end _ _ _ (by omega)]at this;simpa using this),up hW hB1⟩
end Go.Proofs.YtclgllmipcbagaaGreatDoor
