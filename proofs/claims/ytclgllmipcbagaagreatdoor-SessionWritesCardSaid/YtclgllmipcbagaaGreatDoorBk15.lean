/-
  Parts of the proof: XSm XSa XSf XSe
-/
import Derived.Test.YtclgllmipcbagaaGreatDoorBk14
namespace Go.Proofs.YtclgllmipcbagaaGreatDoor
open Go.RowKit
set_option linter.unusedVariables false
set_option linter.unusedSimpArgs false
set_option maxRecDepth 100000
set_option maxHeartbeats 16000000
def mask (b:Nat)(w:World):World:={w with heap:=w.heap.setIfInBounds b (.cells #[] 0)}
theorem mask_size (b:Nat)(w:World):(mask b w).heap.size=w.heap.size:=by simp[mask]
theorem mask_heap {b k:Nat}(w:World)(h:k≠b):(mask b w).heap[k]? =w.heap[k]? :=by
 show(w.heap.setIfInBounds b _)[k]? =_;rw[Array.getElem?_setIfInBounds_ne (Ne.symm h)]
theorem mask_cell {b:Nat}{w:World}{a:Addr}{v:Value}(h:(mask b w).cell? a=some v):w.cell? a=some v∧a.block≠b:=by
 have hne:a.block≠b:=by
  intro e;unfold World.cell? at h;have:(mask b w).heap[a.block]? =if a.block<w.heap.size then some (.cells #[] 0)else none:=by
   show(w.heap.setIfInBounds b _)[a.block]? =_;rw[e,Array.getElem?_setIfInBounds];simp
  rw[this]at h;split at h
  ·rename_i h1
   split at h1
   ·injection h1 with h1
    injection h1 with h1 h2 h3
    subst h1;simp at h
   ·cases h1
  ·cases h
 refine⟨?_,hne⟩;unfold World.cell? at h⊢;rw[mask_heap w hne]at h;exact h
theorem mask_cell' {b:Nat}{w:World}{a:Addr}(hne:a.block≠b):(mask b w).cell? a=w.cell? a:=by
 unfold World.cell?;rw[mask_heap w hne]
theorem mask_grown {b:Nat}{w w':World}(h:w.grownBy w' (some b)):Below w.heap.size (mask b w) (mask b w'):=by
 refine⟨h.os,h.tape,h.output,by rw[mask_size,mask_size];exact h.size,fun k hk=> ?_⟩;by_cases e:k=b
 ·subst e
  have hk':k<w'.heap.size:=Nat.lt_of_lt_of_le hk h.size;show(w'.heap.setIfInBounds k _)[k]? =(w.heap.setIfInBounds k _)[k]?;rw[Array.getElem?_setIfInBounds_self_of_lt hk',Array.getElem?_setIfInBounds_self_of_lt hk]
 ·rw[mask_heap _ e,mask_heap _ e]
  exact h.block k hk (by intro e2;injection e2 with e2;exact e e2)
theorem mask_below {b:Nat}{w w':World}(h:Below w.heap.size w w'):Below (mask b w).heap.size (mask b w) (mask b w'):=by
 rw[mask_size];exact mask_grown (Below.toGrown h _)
theorem mask_new (w:World)(o:Obj):Below w.heap.size w (mask w.heap.size (w.alloc o)):=by
 refine⟨rfl,rfl,rfl,by rw[mask_size];simp,fun k hk=> ?_⟩;rw[mask_heap _ (Nat.ne_of_lt hk)];exact heap_old w o k hk
theorem CellsAt.unmask {b:Nat}{w:World}{a:Option Addr}{cs:List Value}(h:CellsAt (mask b w) a cs):CellsAt w a cs:=by
 rcases h with h|⟨b',off,e,hl,hc⟩
 ·exact .inl h
 ·refine .inr ⟨b',off,e,by rwa[mask_size]at hl,fun i hi=> ?_⟩
  have:=hc i hi;rw[List.getElem?_eq_getElem hi]at this⊢;exact(mask_cell this).1
theorem CellsAt.mask {b:Nat}{w:World}{a:Option Addr}{cs:List Value}(h:CellsAt w a cs)(hb:∀n c,(Value.slice a n c).ownBlock≠some b):CellsAt (mask b w) a cs:=by
 rcases h with h|⟨b',off,e,hl,hc⟩
 ·exact .inl h
 ·refine .inr ⟨b',off,e,by rwa[mask_size],fun i hi=> ?_⟩
  rw[mask_cell']
  ·exact hc i hi
  ·intro e2
   have:=hb 0 0;rw[e]at this;exact this (by show some b'=some b;rw[show b'=b from e2])
theorem IntsR.unmask {b:Nat}{w:World}{v:Value}{l:List Int}(h:IntsR (mask b w) v l):IntsR w v l:=by
 obtain⟨a,cap,h1,h2,h3,h4,h5⟩:=h;exact⟨a,cap,h1,h2,h3,h4,h5.unmask⟩
theorem EdgesR.unmask {b:Nat}{w:World}{v:Value}{l:List E}(h:EdgesR (mask b w) v l):EdgesR w v l:=by
 obtain⟨a,cap,h1,h2,h3,h4,h5⟩:=h;exact⟨a,cap,h1,h2,h3,h4,h5.unmask⟩
theorem IntsR.mask {b:Nat}{w:World}{v:Value}{l:List Int}(h:IntsR w v l)(hb:v.ownBlock≠some b):IntsR (mask b w) v l:=by
 obtain⟨a,cap,rfl,h2,h3,h4,h5⟩:=h;exact⟨a,cap,rfl,h2,h3,h4,h5.mask fun n c=>by cases a<;>exact hb⟩
theorem EdgesR.mask {b:Nat}{w:World}{v:Value}{l:List E}(h:EdgesR w v l)(hb:v.ownBlock≠some b):EdgesR (mask b w) v l:=by
 obtain⟨a,cap,rfl,h2,h3,h4,h5⟩:=h;exact⟨a,cap,rfl,h2,h3,h4,h5.mask fun n c=>by cases a<;>exact hb⟩
theorem ObV.unmask {b:Nat}{w:World}{x:Ob}{vs:List Value}(h:ObV (mask b w) x vs):ObV w x vs:=by
 obtain⟨ev,dv,e,h1,h2⟩:=h;exact⟨ev,dv,e,h1.unmask,h2.unmask⟩
theorem ObsR.unmask {b:Nat}{w:World}{v:Value}{l:List Ob}(h:ObsR (mask b w) v l):ObsR w v l:=by
 obtain⟨a,cap,cs,h1,h2,h3,h4,h5,h6,h7⟩:=h;exact⟨a,cap,cs,h1,h2,h3,h4,h5.unmask,h6,fun k hk=>(h7 k hk).unmask⟩
theorem LsoR.unmask {b:Nat}{w:World}{v:Value}{l:List (List Ob)}(h:LsoR (mask b w) v l):LsoR w v l:=by
 obtain⟨a,cap,cs,h1,h2,h3,h4,h5,h6,h7⟩:=h;exact⟨a,cap,cs,h1,h2,h3,h4,h5.unmask,h6,fun k hk=>(h7 k hk).unmask⟩
def ObC (m:World)(ys:List (List Value))(l:List Ob):Prop:=ys.length=l.length∧∀k,k<l.length→ObV m (l[k]?.getD default) (ys[k]?.getD [])
theorem ObV.len {w:World}{x:Ob}{vs:List Value}(h:ObV w x vs):vs.length=5:=by
 obtain⟨ev,dv,rfl,_⟩:=h;rfl
theorem ObC.nil (m:World):ObC m [] []:=⟨rfl,fun k hk=>by cases hk⟩
theorem ObC.cons {m:World}{y:List Value}{ys:List (List Value)}{x:Ob}{l:List Ob}(h1:ObV m x y)(h:ObC m ys l):ObC m (y::ys) (x::l):=by
 refine⟨by simp[h.1],fun k hk=> ?_⟩;match k with
 |0=>exact h1
 |k+1=>exact h.2 k (by simpa using hk)
theorem ObC.app {m:World}:∀{ys zs:List (List Value)} {l n:List Ob},ObC m ys l→ObC m zs n→ObC m (ys++zs) (l++n)
 |[],zs,l,n,h,h2=>by
  have:l=[]:=List.eq_nil_of_length_eq_zero h.1.symm;subst this;exact h2
 |y::ys,zs,[],n,h,h2=>by have:=h.1;simp at this
 |y::ys,zs,x::l,n,h,h2=>ObC.cons (h.2 0 (by simp)) (ObC.app (ys:=ys) (l:=l) ⟨by have:=h.1;simpa using this,fun k hk=>by simpa using h.2 (k+1) (by simpa using hk)⟩ h2)
theorem ObC.take {m:World}{ys:List (List Value)}{l:List Ob}(h:ObC m ys l)(i:Nat):ObC m (ys.take i) (l.take i):=by
 refine⟨by simp[h.1],fun k hk=> ?_⟩;have hk':k<i∧k<l.length:=by simp at hk;omega
 rw[List.getElem?_take_of_lt hk'.1,List.getElem?_take_of_lt hk'.1];exact h.2 k hk'.2
theorem ObC.drop {m:World}{ys:List (List Value)}{l:List Ob}(h:ObC m ys l)(i:Nat):ObC m (ys.drop i) (l.drop i):=by
 refine⟨by simp[h.1],fun k hk=> ?_⟩;rw[List.getElem?_drop,List.getElem?_drop];exact h.2 (i+k) (by simp at hk;omega)
theorem ObC.set {m:World}{ys:List (List Value)}{l:List Ob}(h:ObC m ys l)(i:Nat){y:List Value}{x:Ob}(hx:ObV m x y):ObC m (ys.set i y) (l.set i x):=by
 refine⟨by simp[h.1],fun k hk=> ?_⟩;have hk':k<l.length:=by simpa using hk
 by_cases e:i=k
 ·subst e
  rw[List.getElem?_set_self hk',List.getElem?_set_self (by rw[h.1];exact hk')];exact hx
 ·rw[List.getElem?_set_ne e,List.getElem?_set_ne e]
  exact h.2 k hk'
def Five (ys:List (List Value)):Prop:=∀y∈ys,y.length=5
theorem ObC.five {m:World}{ys:List (List Value)}{l:List Ob}(h:ObC m ys l):Five ys:=by
 intro y hy;obtain⟨k,hk,rfl⟩:=List.getElem_of_mem hy;have:=(h.2 k (by rw[← h.1];exact hk)).len;simpa[hk]using this
theorem Five.len:∀{ys:List (List Value)},Five ys→ys.flatten.length=ys.length*5
 |[],_=>rfl
 |y::ys,h=>by
  have h1:=h y (by simp);have h2:=Five.len (ys:=ys) fun z hz=>h z (by simp[hz]);simp only[List.flatten_cons,List.length_append,List.length_cons,h1,h2];omega
theorem Five.take:∀{ys:List (List Value)},Five ys→∀i,(ys.take i).flatten=ys.flatten.take (i*5)
 |[],_,i=>by simp
 |y::ys,h,0=>by simp
 |y::ys,h,i+1=>by
  have h1:=h y (by simp);have h2:=Five.take (ys:=ys) (fun z hz=>h z (by simp[hz])) i;simp only[List.take_succ_cons,List.flatten_cons,h2];rw[show (i+1)*5=y.length+i*5 by omega,List.take_length_add_append]
theorem Five.drop:∀{ys:List (List Value)},Five ys→∀i,(ys.drop i).flatten=ys.flatten.drop (i*5)
 |[],_,i=>by simp
 |y::ys,h,0=>by simp
 |y::ys,h,i+1=>by
  have h1:=h y (by simp);have h2:=Five.drop (ys:=ys) (fun z hz=>h z (by simp[hz])) i;simp only[xE,List.flatten_cons,h2];rw[show (i+1)*5=y.length+i*5 by omega,List.drop_length_add_append]
theorem Five.at {ys:List (List Value)}(h:Five ys){k:Nat}(hk:k<ys.length):(ys.flatten.drop (k*5)).take 5=ys[k]?.getD []:=by
 rw[← h.drop k,List.drop_eq_getElem_cons hk,List.flatten_cons,List.take_append_of_le_length (by rw[h _ (List.getElem_mem hk)];exact Nat.le_refl _),List.take_of_length_le (by rw[h _ (List.getElem_mem hk)];exact Nat.le_refl _)];simp[hk]
theorem obs_mk {m:World}{a:Option Addr}{cap:Nat}{ys:List (List Value)}{l:List Ob}(h:ObC m ys l)(hc:CellsAt m a ys.flatten)(h1:l.length≤cap)(h2:cap≤9223372036854775807)(h3:l.length*88≤140737488355328):ObsR m (.slice a l.length cap) l:=
 ⟨a,cap,ys.flatten,rfl,h1,h2,h3,hc,by rw[h.five.len,h.1],fun k hk=>by rw[h.five.at (by rw[h.1];exact hk)];exact h.2 k hk⟩
theorem obs_rows {m:World}{a:Option Addr}{n cap:Nat}{l:List Ob}(h:ObsR m (.slice a n cap) l):∃ys,ObC m ys l∧CellsAt m a ys.flatten∧n=l.length∧l.length≤cap∧cap≤9223372036854775807∧l.length*88≤140737488355328:=by
 obtain⟨a',cap',cs,e,h1,h2,h3,h4,h5,h6⟩:=h;injection e with e1 e2 e3
 subst e1 e3;have key:∀(n:Nat) (cs:List Value),cs.length=n*5→((List.range n).map fun k=>(cs.drop (k*5)).take 5).flatten=cs:=by
  intro n;induction n with
  |zero=>intro cs h;simp at h;subst h;rfl
  |succ n ih=>
   intro cs h
   rw[List.range_succ,List.map_append,List.flatten_append]
   have h2:=ih (cs.take (n*5)) (by simp;omega)
   have h3:((List.range n).map fun k=>(cs.drop (k*5)).take 5)=((List.range n).map fun k=>((cs.take (n*5)).drop (k*5)).take 5):=by
    apply List.map_congr_left;intro k hk;have hk:=List.mem_range.1 hk;rw[List.drop_take,List.take_take];congr 1;omega
   rw[h3,h2]
   simp only[xA,xB,List.flatten_cons,List.flatten_nil,List.append_nil]
   rw[List.take_of_length_le (l:=cs.drop (n*5)) (by simp;omega),List.take_append_drop]
 refine⟨(List.range l.length).map fun k=>(cs.drop (k*5)).take 5,⟨by simp,fun k hk=> ?_⟩,by rw[key _ _ h5];exact h4,e2,h1,h2,h3⟩;simp only[List.getElem?_map,List.getElem?_range hk,Option.map_some,Option.getD_some];exact h6 k hk
theorem grown_tr {w w1 w2:World}{r:Option Nat}(h:w.grownBy w1 r)(h2:w1.grownBy w2 r):w.grownBy w2 r:=
 ⟨h2.os.trans h.os,h2.tape.trans h.tape,h2.output.trans h.output,Nat.le_trans h.size h2.size,fun k hk hne=>(h2.block k (Nat.lt_of_lt_of_le hk h.size) hne).trans (h.block k hk hne)⟩
theorem grown_put (w:World)(b k:Nat)(v:Value):w.grownBy (w.setCell ⟨b,k,none⟩ v) (some b):=grown_set w b k v
theorem EdgesR.later {b:Nat}{w w':World}{v:Value}{l:List E}(h:EdgesR (Go.Proofs.YtclgllmipcbagaaGreatDoor.mask b w) v l)(hg:w.grownBy w' (some b)):EdgesR (Go.Proofs.YtclgllmipcbagaaGreatDoor.mask b w') v l:=h.below (by rw[mask_size];exact mask_grown hg)
theorem IntsR.later {b:Nat}{w w':World}{v:Value}{l:List Int}(h:IntsR (Go.Proofs.YtclgllmipcbagaaGreatDoor.mask b w) v l)(hg:w.grownBy w' (some b)):IntsR (Go.Proofs.YtclgllmipcbagaaGreatDoor.mask b w') v l:=h.below (by rw[mask_size];exact mask_grown hg)
theorem ObsR.later {b:Nat}{w w':World}{v:Value}{l:List Ob}(h:ObsR (Go.Proofs.YtclgllmipcbagaaGreatDoor.mask b w) v l)(hg:w.grownBy w' (some b)):ObsR (Go.Proofs.YtclgllmipcbagaaGreatDoor.mask b w') v l:=h.below (by rw[mask_size];exact mask_grown hg)
theorem LsoR.later {b:Nat}{w w':World}{v:Value}{l:List (List Ob)}(h:LsoR (Go.Proofs.YtclgllmipcbagaaGreatDoor.mask b w) v l)(hg:w.grownBy w' (some b)):LsoR (Go.Proofs.YtclgllmipcbagaaGreatDoor.mask b w') v l:=h.below (by rw[mask_size];exact mask_grown hg)
theorem grown_put5 (w:World)(b:Nat)(y0 y1 y2 y3 y4:Value):w.grownBy (((((w.setCell ⟨b,0,none⟩ y0).setCell ⟨b,1,none⟩ y1).setCell ⟨b,2,none⟩ y2).setCell ⟨b,3,none⟩ y3).setCell ⟨b,4,none⟩ y4) (some b):=
 grown_tr (grown_tr (grown_tr (grown_tr (grown_put _ _ _ _) (grown_put _ _ _ _)) (grown_put _ _ _ _)) (grown_put _ _ _ _)) (grown_put _ _ _ _)
theorem ObR.parts {w:World}{x:Ob}{v0 v1 v2 ev dv:Value}(h:ObR w (.agg #[v0,v1,v2,ev,dv]) x):EdgesR w ev x.g.es∧IntsR w dv x.d:=by
 obtain⟨e',d',e,h1,h2⟩:=h;have e:=congrArg (fun v=>match v with| .agg c=>c.toList|_=>[]) e;simp only[List.cons.injEq,and_true,true_and]at e;obtain⟨_,_,_,rfl,rfl⟩:=e;exact⟨h1,h2⟩
theorem five_news (w:World)(v0 v1 v2 v3 v4:Value)(e:TypeId)(j:Nat)(u:Value)(h:[v0,v1,v2,v3,v4][j]? =some u):(w.alloc (.cells #[v0,v1,v2,v3,v4] e)).cell? ((⟨w.heap.size,0,none⟩:Addr).add j)=some u:=by
 have e1:(⟨w.heap.size,0,none⟩:Addr).add j=⟨w.heap.size,j,none⟩:=by unfold Addr.add;split<;>simp_all
 rw[e1,World.cell?_alloc_new];simpa using h
def Sub (w w':World):Prop:=w.heap.size≤w'.heap.size∧∀a v,w.cell? a=some v→w'.cell? a=some v
theorem Sub.refl (w:World):Sub w w:=⟨Nat.le_refl _,fun _ _ h=>h⟩
theorem Sub.trans {a b c:World}(h:Sub a b)(k:Sub b c):Sub a c:=⟨Nat.le_trans h.1 k.1,fun x v hx=>k.2 x v (h.2 x v hx)⟩
theorem lt_of_cell {w:World}{a:Addr}{v:Value}(h:w.cell? a=some v):a.block<w.heap.size:=by
 rcases Nat.lt_or_ge a.block w.heap.size with h'|h'
 ·exact h'
 ·simp[World.cell?,Array.getElem?_eq_none h']at h
theorem sub_below {w w':World}(h:Below w.heap.size w w'):Sub w w':=⟨h.size,fun a v hv=>(h.cell (lt_of_cell hv)).trans hv⟩
theorem Sub.mask {w w':World}(h:Sub w w')(b:Nat):Sub (Go.Proofs.YtclgllmipcbagaaGreatDoor.mask b w) (Go.Proofs.YtclgllmipcbagaaGreatDoor.mask b w'):=
 ⟨by rw[mask_size,mask_size];exact h.1,fun a v hv=>by obtain⟨h1,h2⟩:=mask_cell hv;rw[mask_cell' h2];exact h.2 a v h1⟩
theorem sub_unmask (b:Nat)(w:World):Sub (Go.Proofs.YtclgllmipcbagaaGreatDoor.mask b w) w:=⟨by rw[mask_size];exact Nat.le_refl _,fun a v hv=>(mask_cell hv).1⟩
theorem Sub.toMask {w w':World}(h:Sub w w'){b:Nat}(hb:w.heap.size≤b):Sub w (Go.Proofs.YtclgllmipcbagaaGreatDoor.mask b w'):=
 ⟨by rw[mask_size];exact h.1,fun a v hv=>by rw[mask_cell' (Nat.ne_of_lt (Nat.lt_of_lt_of_le (lt_of_cell hv) hb))];exact h.2 a v hv⟩
theorem sub_grown {b:Nat}{w w':World}(h:w.grownBy w' (some b)):Sub (Go.Proofs.YtclgllmipcbagaaGreatDoor.mask b w) (Go.Proofs.YtclgllmipcbagaaGreatDoor.mask b w'):=by
 have:=mask_grown h;rw[← mask_size b w]at this;exact sub_below this
theorem CellsAt.sub {w w':World}{a:Option Addr}{cs:List Value}(h:CellsAt w a cs)(k:Sub w w'):CellsAt w' a cs:=by
 rcases h with h|⟨b',off,e,hl,hc⟩
 ·exact .inl h
 ·refine .inr ⟨b',off,e,Nat.lt_of_lt_of_le hl k.1,fun i hi=> ?_⟩
  have:=hc i hi;rw[List.getElem?_eq_getElem hi]at this⊢;exact k.2 _ _ this
theorem IntsR.sub {w w':World}{v:Value}{l:List Int}(h:IntsR w v l)(k:Sub w w'):IntsR w' v l:=by
 obtain⟨a,cap,h1,h2,h3,h4,h5⟩:=h;exact⟨a,cap,h1,h2,h3,h4,h5.sub k⟩
theorem EdgesR.sub {w w':World}{v:Value}{l:List E}(h:EdgesR w v l)(k:Sub w w'):EdgesR w' v l:=by
 obtain⟨a,cap,h1,h2,h3,h4,h5⟩:=h;exact⟨a,cap,h1,h2,h3,h4,h5.sub k⟩
theorem ObV.sub {w w':World}{x:Ob}{vs:List Value}(h:ObV w x vs)(k:Sub w w'):ObV w' x vs:=by
 obtain⟨ev,dv,e,h1,h2⟩:=h;exact⟨ev,dv,e,h1.sub k,h2.sub k⟩
theorem ObC.sub {m m':World}{ys:List (List Value)}{l:List Ob}(h:ObC m ys l)(k:Sub m m'):ObC m' ys l:=⟨h.1,fun j hj=>(h.2 j hj).sub k⟩
theorem ObsR.sub {w w':World}{v:Value}{l:List Ob}(h:ObsR w v l)(k:Sub w w'):ObsR w' v l:=by
 obtain⟨a,cap,cs,h1,h2,h3,h4,h5,h6,h7⟩:=h;exact⟨a,cap,cs,h1,h2,h3,h4,h5.sub k,h6,fun j hj=>(h7 j hj).sub k⟩
theorem LsoR.sub {w w':World}{v:Value}{l:List (List Ob)}(h:LsoR w v l)(k:Sub w w'):LsoR w' v l:=by
 obtain⟨a,cap,cs,h1,h2,h3,h4,h5,h6,h7⟩:=h;exact⟨a,cap,cs,h1,h2,h3,h4,h5.sub k,h6,fun j hj=>(h7 j hj).sub k⟩
def msk (v:Value)(w:World):World:=match v.ownBlock with|some g=>Go.Proofs.YtclgllmipcbagaaGreatDoor.mask g w|none=>w
theorem Sub.msk {w w':World}(h:Sub w w')(v:Value):Sub (Go.Proofs.YtclgllmipcbagaaGreatDoor.msk v w) (Go.Proofs.YtclgllmipcbagaaGreatDoor.msk v w'):=by
 unfold Go.Proofs.YtclgllmipcbagaaGreatDoor.msk;split
 ·exact h.mask _
 ·exact h
theorem sub_unmsk (v:Value)(w:World):Sub (Go.Proofs.YtclgllmipcbagaaGreatDoor.msk v w) w:=by
 unfold Go.Proofs.YtclgllmipcbagaaGreatDoor.msk;split
 ·exact sub_unmask _ _
 ·exact Sub.refl _
theorem Sub.toMsk {w w':World}(h:Sub w w'){v:Value}(hb:∀g,v.ownBlock=some g→w.heap.size≤g):Sub w (Go.Proofs.YtclgllmipcbagaaGreatDoor.msk v w'):=by
 unfold Go.Proofs.YtclgllmipcbagaaGreatDoor.msk;split
 ·rename_i g hg;exact h.toMask (hb g hg)
 ·exact h
theorem sub_app {w w':World}{v v':Value}(hg:w.grownBy w' v.ownBlock)(hv:v'.ownBlock=v.ownBlock∨v'.ownBlock=some w.heap.size):Sub (Go.Proofs.YtclgllmipcbagaaGreatDoor.msk v w) (Go.Proofs.YtclgllmipcbagaaGreatDoor.msk v' w'):=by
 rcases hv with hv|hv
 ·unfold Go.Proofs.YtclgllmipcbagaaGreatDoor.msk
  rw[hv];split
  ·rename_i g e
   rw[e]at hg;exact sub_grown hg
  ·rename_i e
   rw[e]at hg;exact sub_below ⟨hg.os,hg.tape,hg.output,hg.size,fun k hk=>hg.block k hk (by simp)⟩
 ·have h1:Sub (Go.Proofs.YtclgllmipcbagaaGreatDoor.msk v w) w':=by
   unfold Go.Proofs.YtclgllmipcbagaaGreatDoor.msk;split
   ·rename_i g e
    rw[e]at hg;exact(sub_grown hg).trans (sub_unmask _ _)
   ·rename_i e
    rw[e]at hg;exact sub_below ⟨hg.os,hg.tape,hg.output,hg.size,fun k hk=>hg.block k hk (by simp)⟩
  refine h1.toMsk fun g e=> ?_;rw[hv]at e;injection e with e
  have:(Go.Proofs.YtclgllmipcbagaaGreatDoor.msk v w).heap.size=w.heap.size:=by
   unfold Go.Proofs.YtclgllmipcbagaaGreatDoor.msk;split
   ·rw[mask_size]
   ·rfl
  omega
theorem msk_size (v:Value)(w:World):(Go.Proofs.YtclgllmipcbagaaGreatDoor.msk v w).heap.size=w.heap.size:=by
 unfold Go.Proofs.YtclgllmipcbagaaGreatDoor.msk;split
 ·rw[mask_size]
 ·rfl
theorem CellsAt.msk {w:World}{a:Option Addr}{cs:List Value}{u:Value}(h:CellsAt w a cs)(hb:∀n c g,(Value.slice a n c).ownBlock=some g→u.ownBlock≠some g):CellsAt (Go.Proofs.YtclgllmipcbagaaGreatDoor.msk u w) a cs:=by
 unfold Go.Proofs.YtclgllmipcbagaaGreatDoor.msk;split
 ·rename_i g e
  exact h.mask fun n c e2=>hb n c g e2 e
 ·exact h
theorem IntsR.msk {w:World}{v u:Value}{l:List Int}(h:IntsR w v l)(hb:∀g,v.ownBlock=some g→u.ownBlock≠some g):IntsR (Go.Proofs.YtclgllmipcbagaaGreatDoor.msk u w) v l:=by
 obtain⟨a,cap,rfl,h2,h3,h4,h5⟩:=h;exact⟨a,cap,rfl,h2,h3,h4,h5.msk fun n c g=>by cases a<;>exact hb g⟩
theorem EdgesR.msk {w:World}{v u:Value}{l:List E}(h:EdgesR w v l)(hb:∀g,v.ownBlock=some g→u.ownBlock≠some g):EdgesR (Go.Proofs.YtclgllmipcbagaaGreatDoor.msk u w) v l:=by
 obtain⟨a,cap,rfl,h2,h3,h4,h5⟩:=h;exact⟨a,cap,rfl,h2,h3,h4,h5.msk fun n c g=>by cases a<;>exact hb g⟩
def cutW (B:Nat)(w:World):World:={w with heap:=w.heap.mapIdx fun k o=>if k<B then .cells #[] 0 else o}
theorem cut_size (B:Nat)(w:World):(cutW B w).heap.size=w.heap.size:=by simp[cutW]
theorem cut_heap {B k:Nat}(w:World)(h:B≤k):(cutW B w).heap[k]? =w.heap[k]? :=by
 show(w.heap.mapIdx _)[k]? =_;rw[Array.getElem?_mapIdx];cases w.heap[k]? with
 |none=>rfl
 |some o=>simp[Nat.not_lt.2 h]
theorem cut_cell' {B:Nat}{w:World}{a:Addr}(h:B≤a.block):(cutW B w).cell? a=w.cell? a:=by
 unfold World.cell?;rw[cut_heap w h]
theorem cut_cell {B:Nat}{w:World}{a:Addr}{v:Value}(h:(cutW B w).cell? a=some v):w.cell? a=some v∧B≤a.block:=by
 rcases Nat.lt_or_ge a.block B with hl|hl
 ·exfalso
  unfold World.cell? at h;have:(cutW B w).heap[a.block]? =if a.block<w.heap.size then some (.cells #[] 0)else none:=by
   show(w.heap.mapIdx _)[a.block]? =_;rw[Array.getElem?_mapIdx];by_cases e:a.block<w.heap.size
   ·rw[if_pos e,Array.getElem?_eq_getElem e];simp[hl]
   ·rw[if_neg e,Array.getElem?_eq_none (by omega)];rfl
  rw[this]at h;split at h
  ·rename_i h1
   split at h1
   ·injection h1 with h1
    injection h1 with h1 h2 h3
    subst h1;simp at h
   ·cases h1
  ·cases h
 ·rw[cut_cell' hl]at h
  exact⟨h,hl⟩
theorem Sub.cut {w w':World}(h:Sub w w')(B:Nat):Sub (cutW B w) (cutW B w'):=
 ⟨by rw[cut_size,cut_size];exact h.1,fun a v hv=>by obtain⟨h1,h2⟩:=cut_cell hv;rw[cut_cell' h2];exact h.2 a v h1⟩
theorem sub_cut_mask {B b:Nat}(w:World)(h:b<B):Sub (cutW B w) (Go.Proofs.YtclgllmipcbagaaGreatDoor.mask b w):=
 ⟨by rw[cut_size,mask_size];exact Nat.le_refl _,fun a v hv=>by obtain⟨h1,h2⟩:=cut_cell hv;rw[mask_cell' (by omega)];exact h1⟩
theorem sub_cut_le {B B':Nat}(w:World)(h:B'≤B):Sub (cutW B w) (cutW B' w):=
 ⟨by rw[cut_size,cut_size];exact Nat.le_refl _,fun a v hv=>by obtain⟨h1,h2⟩:=cut_cell hv;rw[cut_cell' (by omega)];exact h1⟩
theorem CellsAt.view {w V:World}{a:Option Addr}{cs:List Value}(h:CellsAt w a cs)(hs:w.heap.size≤V.heap.size)(hv:∀g,(∀ n c,(Value.slice a n c).ownBlock=some g)→∀p:Addr,p.block=g→V.cell? p=w.cell? p):CellsAt V a cs:=by
 rcases h with h|⟨b',off,e,hl,hc⟩
 ·exact .inl h
 ·refine .inr ⟨b',off,e,Nat.lt_of_lt_of_le hl hs,fun i hi=> ?_⟩
  rw[hv b' (fun n c=>by rw[e];rfl) _ rfl];exact hc i hi
theorem EdgesR.view {w V:World}{v:Value}{l:List E}(h:EdgesR w v l)(hs:w.heap.size≤V.heap.size)(hv:∀g,v.ownBlock=some g→∀p:Addr,p.block=g→V.cell? p=w.cell? p):EdgesR V v l:=by
 obtain⟨a,cap,rfl,h2,h3,h4,h5⟩:=h;exact⟨a,cap,rfl,h2,h3,h4,h5.view hs fun g e=>hv g (e _ _)⟩
theorem IntsR.view {w V:World}{v:Value}{l:List Int}(h:IntsR w v l)(hs:w.heap.size≤V.heap.size)(hv:∀g,v.ownBlock=some g→∀p:Addr,p.block=g→V.cell? p=w.cell? p):IntsR V v l:=by
 obtain⟨a,cap,rfl,h2,h3,h4,h5⟩:=h;exact⟨a,cap,rfl,h2,h3,h4,h5.view hs fun g e=>hv g (e _ _)⟩
theorem msk_cell' {u:Value}{w:World}{a:Addr}(h:u.ownBlock≠some a.block):(Go.Proofs.YtclgllmipcbagaaGreatDoor.msk u w).cell? a=w.cell? a:=by
 unfold Go.Proofs.YtclgllmipcbagaaGreatDoor.msk;split
 ·rename_i g e
  exact mask_cell' fun e2=>h (by rw[e,←e2])
 ·rfl
def SubX (b:Nat)(w w':World):Prop:=w.heap.size≤w'.heap.size∧∀a v,a.block≠b→w.cell? a=some v→w'.cell? a=some v
theorem SubX.mask {b:Nat}{w w':World}(h:SubX b w w'):Sub (Go.Proofs.YtclgllmipcbagaaGreatDoor.mask b w) (Go.Proofs.YtclgllmipcbagaaGreatDoor.mask b w'):=
 ⟨by rw[mask_size,mask_size];exact h.1,fun a v hv=>by obtain⟨h1,h2⟩:=mask_cell hv;rw[mask_cell' h2];exact h.2 a v h2 h1⟩
theorem SubX.msk {b:Nat}{w w':World}(h:SubX b w w')(u:Value):SubX b (Go.Proofs.YtclgllmipcbagaaGreatDoor.msk u w) (Go.Proofs.YtclgllmipcbagaaGreatDoor.msk u w'):=by
 unfold Go.Proofs.YtclgllmipcbagaaGreatDoor.msk;split
 ·rename_i g e
  exact⟨by rw[mask_size,mask_size];exact h.1,fun a v hne hv=>by obtain⟨h1,h2⟩:=mask_cell hv;rw[mask_cell' h2];exact h.2 a v hne h1⟩
 ·exact h
theorem subX_set (w:World)(b k:Nat)(y:Value):SubX b w (w.setCell ⟨b,k,none⟩ y):=
 ⟨by simp,fun a v hne hv=>by
   have:=Below.heap_setCell w ⟨b,k,none⟩ y a.block hne;unfold World.cell? at hv⊢;rw[this];exact hv⟩
theorem SubX.trans {b:Nat}{x y z:World}(h:SubX b x y)(k:SubX b y z):SubX b x z:=⟨Nat.le_trans h.1 k.1,fun a v hne hv=>k.2 a v hne (h.2 a v hne hv)⟩
def RetOb (x:Ob)(w:World)(e:Ending)(w':World):Prop:=∃ev dv,e= .returned (.agg #[.string (str x.name),.string (str x.on),.int .i64 x.g.n,ev,dv])∧EdgesR w' ev x.g.es∧IntsR w' dv x.d∧(∀ k,ev.ownBlock=some k→w.heap.size≤k)∧(∀ k,dv.ownBlock=some k→w.heap.size≤k)∧Below w.heap.size w w'
theorem s_copied (x:Ob)(v:Value)(w:World)(hx:ObR w v x):
 Calls Tryz.prog 78 #[v] w (RetOb x w):=by
 obtain⟨ev,dv,rfl,he,hd⟩:=hx;obtain⟨ea,ec,rfl,_⟩:=id he;obtain⟨da,dc,rfl,_⟩:=id hd;have hB:Below w.heap.size w ((w.alloc (.cells #[.string (str x.name),.string (str x.on),.int .i64 x.g.n,.slice ea x.g.es.length ec,.slice da x.d.length dc] 67)).alloc (.cells #[.string ⟨#[]⟩,.string ⟨#[]⟩,.int .i64 0,.slice none 0 0,.slice none 0 0] 67)):=by go_grown
 have hX:=hid ((Blk.new w #[.string (str x.name),.string (str x.on),.int .i64 x.g.n,.slice ea x.g.es.length ec,.slice da x.d.length dc] 67).alloc (.cells #[.string ⟨#[]⟩,.string ⟨#[]⟩,.int .i64 0,.slice none 0 0,.slice none 0 0] 67));have hY:=hid (Blk.new (w.alloc (.cells #[.string (str x.name),.string (str x.on),.int .i64 x.g.n,.slice ea x.g.es.length ec,.slice da x.d.length dc] 67)) #[.string ⟨#[]⟩,.string ⟨#[]⟩,.int .i64 0,.slice none 0 0,.slice none 0 0] 67);simp only[World.size_alloc]at hY;have hsz:((w.alloc (.cells #[.string (str x.name),.string (str x.on),.int .i64 x.g.n,.slice ea x.g.es.length ec,.slice da x.d.length dc] 67)).alloc (.cells #[.string ⟨#[]⟩,.string ⟨#[]⟩,.int .i64 0,.slice none 0 0,.slice none 0 0] 67)).heap.size=w.heap.size+2:=by simp
 have HB:=hid hB;have HE:=hid he;have HD:=hid hd;generalize hW:((w.alloc (.cells #[.string (str x.name),.string (str x.on),.int .i64 x.g.n,.slice ea x.g.es.length ec,.slice da x.d.length dc] 67)).alloc (.cells #[.string ⟨#[]⟩,.string ⟨#[]⟩,.int .i64 0,.slice none 0 0,.slice none 0 0] 67))=W0 at*
 clear he hd hB;go_enter Tryz.func78,Tryz.ntmps78;go_upto_region 1 with fail;clear hW;have x3:=hX.out.cell 3;have x4:=hX.out.cell 4;have lx:=hX.out.lt;simp only[xG,xH,xI]at x3 x4;let S:World→Prop:=fun w'=>Below W0.heap.size W0 w'
 (refine wp_region_text 9 [0,1,2,4,5,3,7,8,6] S (by kernel_rfl) (by kernel_rfl) (by intro _ _ d _ _ h;cases d<;>exact h) ?hS ?_;rotate_left;simp only[xA,xB,xC,xD,xE,xF]);case hS=>exact Below.drew (Below.refl _ _)
 (repeat ((refine' wpSeq_take rfl _ (by rfl) ?_ ?_;rotate_left;focus(intro w' hS;(try dsimp only at hS);have s3:w'.cell? ⟨w.heap.size,3,none⟩=some (.slice ea x.g.es.length ec):=(Below.cell hS (p:=⟨w.heap.size,3,none⟩) lx).trans x3;have s4:w'.cell? ⟨w.heap.size,4,none⟩=some (.slice da x.d.length dc):=(Below.cell hS (p:=⟨w.heap.size,4,none⟩) lx).trans x4;go_simp;(first|done|with_reducible rfl));(try go_frame));(try go_frame)));(refine wpSeq_call rfl (by rfl) (fun K hK=> ?_);go_simp;refine(c_CloneE x.g.es _ _ (HE.out.below (up HB.out (Below.drew (Below.refl _ _))))).mono ?_;rintro e w1 ⟨v1,rfl,h1,o1,hB1⟩;refine hK _ _ (up (Below.drew (Below.refl _ _)) hB1) ?_;clear hK K;(try go_frame))
 (repeat ((refine' wpSeq_take rfl _ (by rfl) ?_ ?_;rotate_left;focus(intro w' hS;(try dsimp only at hS);skip;go_simp;(first|done|with_reducible rfl));(try go_frame));(try go_frame)));(refine wpSeq_call rfl (by rfl) (fun K hK=> ?_);go_simp;refine(c_CloneD x.d _ _ (HD.out.below (up HB.out (up (Below.drew (Below.refl _ _)) hB1)))).mono ?_;rintro e w2 ⟨v2,rfl,h2,o2,hB2⟩;refine hK _ _ (up (up (Below.drew (Below.refl _ _)) hB1) hB2) ?_;clear hK K;(try go_frame));refine wpSeq_nil ?_;clear S;have HB2:=hid (up (up (Below.drew (Below.refl W0.heap.size W0)) hB1) hB2);have hX2:=hid (hX.out.below HB2.out);have hY2:=hid (hY.out.below HB2.out)
 have hs1:W0.heap.size≤w1.heap.size:=hB1.size;clear hX hY hB1 x3 x4 lx;have H1:=hid (h1.below hB2);have H2:=hid h2;obtain⟨a1,c1,rfl,_⟩:=h1;obtain⟨a2,c2,rfl,_⟩:=h2;clear hB2;have lz:=hY2.out.lt;have lx:=hX2.out.lt;have f3:=hX2.out.frozen 3;have f4:=hX2.out.frozen 4;have x0:=hX2.out.cell 0;have x1:=hX2.out.cell 1;have x2:=hX2.out.cell 2;have x3:=hX2.out.cell 3;have x4:=hX2.out.cell 4;have y0:=hY2.out.cell 0;have y1:=hY2.out.cell 1;have y2:=hY2.out.cell 2;have y3:=hY2.out.cell 3;have y4:=hY2.out.cell 4;have g0:=hY2.out.frozen 0;have g1:=hY2.out.frozen 1;have g2:=hY2.out.frozen 2;have g3:=hY2.out.frozen 3
 have g4:=hY2.out.frozen 4;simp only[xG,xH,xI]at x0 x1 x2 x3 x4 y0 y1 y2 y3 y4;go_wp2_with fail;have hne:w.heap.size+1≠w.heap.size:=by omega
 have ho1:∀k,(Value.slice a1 x.g.es.length c1).ownBlock=some k→w.heap.size+1<k:=fun k hk=>by
  have:=o1 k hk;have e:W0.drew.heap.size=W0.heap.size:=rfl;omega
 have ho2:∀k,(Value.slice a2 x.d.length c2).ownBlock=some k→w.heap.size+1<k:=fun k hk=>by
  have:=o2 k hk;omega
 have HE':=hid ((((((((H1.out.setS (p:=⟨w.heap.size,3,none⟩) (Value.slice a1 x.g.es.length c1) fun k hk=>Nat.lt_of_succ_lt (ho1 k hk)).setS (p:=⟨w.heap.size,4,none⟩) (Value.slice a2 x.d.length c2) fun k hk=>Nat.lt_of_succ_lt (ho1 k hk)).setS (p:=⟨w.heap.size+1,0,none⟩) (.string (str x.name)) ho1).setS (p:=⟨w.heap.size+1,1,none⟩) (.string (str x.on)) ho1).setS (p:=⟨w.heap.size+1,2,none⟩) (.int .i64 x.g.n) ho1).setS (p:=⟨w.heap.size+1,3,none⟩) (Value.slice a1 x.g.es.length c1) ho1).setS (p:=⟨w.heap.size+1,4,none⟩) (Value.slice a2 x.d.length c2) ho1));have HD':=hid ((((((((H2.out.setS (p:=⟨w.heap.size,3,none⟩) (Value.slice a1 x.g.es.length c1) fun k hk=>Nat.lt_of_succ_lt (ho2 k hk)).setS (p:=⟨w.heap.size,4,none⟩) (Value.slice a2 x.d.length c2) fun k hk=>Nat.lt_of_succ_lt (ho2 k hk)).setS (p:=⟨w.heap.size+1,0,none⟩) (.string (str x.name)) ho2).setS (p:=⟨w.heap.size+1,1,none⟩) (.string (str x.on)) ho2).setS (p:=⟨w.heap.size+1,2,none⟩) (.int .i64 x.g.n) ho2).setS (p:=⟨w.heap.size+1,3,none⟩) (Value.slice a1 x.g.es.length c1) ho2).setS (p:=⟨w.heap.size+1,4,none⟩) (Value.slice a2 x.d.length c2) ho2))
 refine bodyPost_ret (results_cellA rfl rfl (load_obj (blk5 ((hY2.out.other hne 3 _).other hne 4 _) _ _ _ _ _))) rfl ⟨_,_,rfl,HE'.out,HD'.out,fun k hk=> ?_,fun k hk=> ?_,?_⟩
 ·have:=ho1 k hk;omega
 ·have:=ho2 k hk;omega
 ·exact below5 (((up HB.out HB2.out).setCell (p:=⟨w.heap.size,3,none⟩) (Nat.le_refl _) _).setCell (p:=⟨w.heap.size,4,none⟩) (Nat.le_refl _) _) (Nat.le_succ _) _ _ _ _ _
theorem s_Find (s:Ses)(v:Value)(n:List UInt8)(w:World)(hs:SesR w v s)(hm:SmSes s):
 Calls Tryz.prog 31 #[v,.string (str n)] w (RetFind s n w):=by
 have hCk:∀W,Below w.heap.size w W→Calls Tryz.prog 34 #[v] W fun e w'=>e= .returned (.int .i64 (sesErr s))∧Below W.heap.size W w':=fun W h=>s_Check s v W (hs.below h) hm;have HCk:=hid hCk;obtain⟨ov,pv,fv,rfl,ho,hp,hf⟩:=hs;obtain⟨oa,oc,rfl,hcap,hcm,hlen⟩:=ho.form;obtain⟨pa,pc,rfl,_⟩:=hp.form;obtain⟨fa,fc,rfl,_⟩:=hf.form;have HL:=hid ho;have hB:Below w.heap.size w ((w.alloc (.cells #[.slice oa s.obs.length oc,.slice pa s.past.length pc,.slice fa s.fut.length fc] 25)).alloc (.cells #[.string ⟨#[]⟩,.string ⟨#[]⟩,.int .i64 0,.slice none 0 0,.slice none 0 0] 67)):=by go_grown
 have hX:=hid ((Blk.new w #[.slice oa s.obs.length oc,.slice pa s.past.length pc,.slice fa s.fut.length fc] 25).alloc (.cells #[.string ⟨#[]⟩,.string ⟨#[]⟩,.int .i64 0,.slice none 0 0,.slice none 0 0] 67));have hY:=hid (Blk.new (w.alloc (.cells #[.slice oa s.obs.length oc,.slice pa s.past.length pc,.slice fa s.fut.length fc] 25)) #[.string ⟨#[]⟩,.string ⟨#[]⟩,.int .i64 0,.slice none 0 0,.slice none 0 0] 67);simp only[World.size_alloc]at hY;have HB:=hid hB;clear ho hp hf hm hCk hB;go_enter Tryz.func31,Tryz.ntmps31;go_upto_region 1 with fail;generalize hW:((w.alloc (.cells #[.slice oa s.obs.length oc,.slice pa s.past.length pc,.slice fa s.fut.length fc] 25)).alloc (.cells #[.string ⟨#[]⟩,.string ⟨#[]⟩,.int .i64 0,.slice none 0 0,.slice none 0 0] 67))=W0 at*
 clear hW;have lx:=hX.out.lt;have x0:=hX.out.cell 0;have x1:=hX.out.cell 1;have x2:=hX.out.cell 2;simp only[xG,xH,xI]at x0 x1 x2;go_upto_region 2 with (go_at_call 34;refine(HCk.out _ ?hb).mono ?_;(case hb=>exact HB.out);rintro e w1 ⟨rfl,hB1⟩);have HB1:Hid (Below w.heap.size w w1):=(show Below w.heap.size w w1 from up HB.out hB1);have hX1:=hid (hX.out.below hB1);have hY1:=hid (hY.out.below hB1);clear x0 x1 x2 lx hX hY HB hB1 HCk;have lx:=hX1.out.lt;have x0:=hX1.out.cell 0;have x1:=hX1.out.cell 1;have x2:=hX1.out.cell 2;have ly:=hY1.out.lt;have y0:=hY1.out.cell 0;have y1:=hY1.out.cell 1;have y2:=hY1.out.cell 2
 have y3:=hY1.out.cell 3;have y4:=hY1.out.cell 4;have g0:=hY1.out.frozen 0;have g1:=hY1.out.frozen 1;have g2:=hY1.out.frozen 2;have g3:=hY1.out.frozen 3;have g4:=hY1.out.frozen 4;simp only[xG,xH,xI]at x0 x1 x2 y0 y1 y2 y3 y4;have HFE:Hid (findErr s n=if sesErr s≠0 then sesErr s else if plN s.obs n<s.obs.length then 0 else 6):=rfl;have HFB:Hid (findB s n=if findErr s n=0 then obOf s.obs n else ob0):=rfl;generalize sesErr s=z at*
 by_cases h0:z=0
 case neg=>
  have hb:(z !=0)=true:=by simpa using h0
  have hf:Hid (findErr s n=z):=by show _=_;rw[HFE.out,if_pos h0]
  have hf2:Hid (findB s n=ob0):=by show _=_;rw[HFB.out,hf.out,if_neg h0]
  clear h0 HFE HFB;go_wp2_with fail;refine bodyPost_ret (results_cellB rfl rfl (load_obj (blk5 hY1.out _ _ _ _ _))) rfl ⟨.agg #[.string (str []),.string (str []),.int .i64 0,.slice none 0 0,.slice none 0 0],?_,?_,below5 HB1.out (Nat.le_succ _) _ _ _ _ _⟩
  ·rw[hf.out];rfl
  ·rw[hf2.out];exact⟨_,_,rfl,EdgesR.nil _,IntsR.nil _⟩
 have hb:(z !=0)=false:=by simpa using h0
 rw[if_neg (by simpa using h0)]at HFE;clear h0;have hpc:=hid (s_place s.obs _ n w1 (HL.out.below HB1.out));by_cases hp:plN s.obs n<s.obs.length
 ·rw[plI_lt hp]at hpc
  obtain⟨b,off,ea,ec,da,dc,rfl,hb2,c0,c1,c2,c3,c4,he,hd⟩:=HL.out.atB HB1.out _ hp;have hf:Hid (findErr s n=0):=by show _=_;rw[HFE.out,if_pos hp]
  have hf2:Hid (findB s n=s.obs[plN s.obs n]?.getD default):=by show _=_;rw[HFB.out,hf.out,if_pos rfl];rfl
  have hk1:((plN s.obs n:Nat):Int)<(s.obs.length:Int):=by omega
  have hk0:(0:Int)≤((plN s.obs n:Nat):Int):=by omega
  have hkn:¬((plN s.obs n:Nat):Int)<0:=by omega
  have HE:=hid he;have HD:=hid hd;clear he hd hp HFE HFB;generalize s.obs[plN s.obs n]?.getD default=x at*
  generalize plN s.obs n=k at*
  go_upto_region 5 with (go_at_call 77;refine hpc.out.mono ?_;rintro e w2 ⟨rfl,hB2⟩);have HB2:=hid (up HB1.out hB2);have hX2:=hid (hX1.out.below hB2);have hY2:=hid (hY1.out.below hB2);have e0:=(hB2.cell (p:=⟨b,off+k*5,none⟩) hb2).trans c0;have e1:=(hB2.cell (p:=⟨b,off+k*5+1,none⟩) hb2).trans c1;have e2:=(hB2.cell (p:=⟨b,off+k*5+2,none⟩) hb2).trans c2;have e3:=(hB2.cell (p:=⟨b,off+k*5+3,none⟩) hb2).trans c3;have e4:=(hB2.cell (p:=⟨b,off+k*5+4,none⟩) hb2).trans c4;have hb3:b<w2.heap.size:=Nat.lt_of_lt_of_le hb2 hB2.size;have hly2:w.heap.size+1<w2.heap.size:=hY2.out.lt;clear c0 c1 c2 c3 c4 hb2 x0 x1 x2 y0 y1 y2 y3 y4 lx ly g0 g1 g2 g3 g4 hpc hX1 hY1 HB1 hB2
  have lx:=hX2.out.lt;have x0:=hX2.out.cell 0;have x1:=hX2.out.cell 1;have x2:=hX2.out.cell 2;simp only[xG,xH,xI]at x0 x1 x2;have HCP:Hid (∀ v,v=Value.agg #[.string (str x.name),.string (str x.on),.int .i64 x.g.n,.slice ea x.g.es.length ec,.slice da x.d.length dc]→Calls Tryz.prog 78 #[v] w2 (RetOb x w2)):=fun v hv=>s_copied x v w2 ⟨_,_,hv,HE.out.below HB2.out,HD.out.below HB2.out⟩;go_wp2_with (go_at_call 78;refine(HCP.out _ rfl).mono ?_;rintro e w3 ⟨ev3,dv3,rfl,he3,hd3,fe3,fd3,hB3⟩;have FE3:=hid fe3;have FD3:=hid fd3;clear fe3 fd3;have hY3:=hid (hY2.out.below hB3);have HB3:=hid (up HB2.out hB3);have ly:=hY3.out.lt;have g0:=hY3.out.frozen 0;have g1:=hY3.out.frozen 1;have g2:=hY3.out.frozen 2;have g3:=hY3.out.frozen 3;have g4:=hY3.out.frozen 4;have y0:=hY3.out.cell 0;have y1:=hY3.out.cell 1;have y2:=hY3.out.cell 2;have y3:=hY3.out.cell 3;have y4:=hY3.out.cell 4;(simp only[xG,xH,xI]at y0 y1 y2 y3 y4);have HE3:=hid he3;have HD3:=hid hd3;obtain⟨ea3,ec3,rfl,_⟩:=he3;obtain⟨da3,dc3,rfl,_⟩:=hd3;clear hB3)
  refine bodyPost_ret (results_cellB rfl rfl (load_obj (blk5 hY3.out _ _ _ _ _))) rfl ⟨.agg #[.string (str x.name),.string (str x.on),.int .i64 x.g.n,.slice ea3 x.g.es.length ec3,.slice da3 x.d.length dc3],?_,?_,below5 HB3.out (Nat.le_succ _) _ _ _ _ _⟩
  ·rw[hf.out];rfl
  ·rw[hf2.out]
   have m1:=HE3.out.mask (b:=w.heap.size+1) fun e=>by have:=FE3.out _ e;omega
   have m2:=HD3.out.mask (b:=w.heap.size+1) fun e=>by have:=FD3.out _ e;omega
   have k1:=fun a b c d f=>(EdgesR.later m1 (grown_put5 w3 (w.heap.size+1) a b c d f)).unmask;have k2:=fun a b c d f=>(IntsR.later m2 (grown_put5 w3 (w.heap.size+1) a b c d f)).unmask;clear m1 m2;exact⟨_,_,rfl,k1 _ _ _ _ _,k2 _ _ _ _ _⟩
 ·rw[plI_no hp]at hpc
  have hf:Hid (findErr s n=6):=by show _=_;rw[HFE.out,if_neg hp]
  have hf2:Hid (findB s n=ob0):=by show _=_;rw[HFB.out,hf.out,if_neg (by decide)]
  clear hp HFE HFB;go_upto_region 5 with (go_at_call 77;refine hpc.out.mono ?_;rintro e w2 ⟨rfl,hB2⟩);have HB2:=hid (up HB1.out hB2);have hY2:=hid (hY1.out.below hB2);clear x0 x1 x2 y0 y1 y2 y3 y4 lx ly g0 g1 g2 g3 g4 hpc hX1 hY1 HB1 hB2;have ly:=hY2.out.lt;have g0:=hY2.out.frozen 0;have g1:=hY2.out.frozen 1;have g2:=hY2.out.frozen 2;have g3:=hY2.out.frozen 3;have g4:=hY2.out.frozen 4;have y0:=hY2.out.cell 0;have y1:=hY2.out.cell 1;have y2:=hY2.out.cell 2;have y3:=hY2.out.cell 3;have y4:=hY2.out.cell 4;simp only[xG,xH,xI]at y0 y1 y2 y3 y4;go_wp2_with fail;refine bodyPost_ret (results_cellB rfl rfl (load_obj (blk5 hY2.out _ _ _ _ _))) rfl ⟨.agg #[.string (str []),.string (str []),.int .i64 0,.slice none 0 0,.slice none 0 0],?_,?_,below5 HB2.out (Nat.le_succ _) _ _ _ _ _⟩
  ·rw[hf.out];rfl
  ·rw[hf2.out];exact⟨_,_,rfl,EdgesR.nil _,IntsR.nil _⟩
def RetD (p:Bool)(w:World)(e:Ending)(w':World):Prop:=e= .returned (.bool p)∧Below w.heap.size w w'
theorem ext_getD {α:Type}[Inhabited α]{xs ys:List α}(hl:xs.length=ys.length)(h:∀j,j<xs.length→xs[j]?.getD default=ys[j]?.getD default):xs=ys:=by
 apply List.ext_getElem hl;intro j h1 h2;have:=h j h1;simpa[h1,h2]using this
theorem c_EqualD (xs ys:List Int)(av bv:Value)(w:World)(ha:IntsR w av xs)(hb:IntsR w bv ys):
 Calls Tryz.prog 52 #[av,bv] w (RetD (decide (xs=ys)) w):=by
 obtain⟨a,cap,rfl,h1,h2,h3,hc⟩:=ha;obtain⟨a',cap',rfl,h1',h2',h3',hd⟩:=hb;have HC:=hid hc;have HD:=hid hd;clear hc hd h3';by_cases hl:xs.length=ys.length
 case neg=>
  have hne:((xs.length:Int)!=(ys.length:Int))=true:=by simp;omega
  have HNE:Hid (false=decide (xs=ys)):=by show _=_;symm;rw[decide_eq_false_iff_not];intro e;exact hl (by rw[e])
  clear hl;go_enter Tryz.func52,Tryz.ntmps52;go_wp2_with fail;go_ret;exact⟨ret_bool HNE.out,Below.refl _ _⟩
 have hne:((xs.length:Int)!=(ys.length:Int))=false:=by simp;omega
 have HLN:=hid hl;clear hl;go_enter Tryz.func52,Tryz.ntmps52;go_wp2_with fail;go_loopw [13] (fun i wr=>∃k:Nat,k≤xs.length∧i= .int .i64 k∧Hid (∀ j,j<k→xs[j]?.getD default=ys[j]?.getD default)∧Hid (Below w.heap.size w wr)) (fun i _=>xs.length-(intOf i).toNat);case atStart=>exact⟨0,Nat.zero_le _,rfl,fun j hj=>by omega,Below.refl _ _⟩
 case round=>
  obtain⟨k,hk,rfl,HP,HB⟩:=hrel;obtain⟨wo,rfl⟩:∃wo:World,wo=wr:=⟨_,rfl⟩;have hk0:(0:Int)≤(k:Int):=by omega
  have wk:IntKind.i64.wrap ((k:Int)+1)=(k:Int)+1:=IntWalk.i64_in _ (by omega);by_cases hlt:k<xs.length
  ·have hlt':(k:Int)<(xs.length:Int):=by omega
   have hlt2:(k:Int)<(ys.length:Int):=by have:=HLN.out;omega
   obtain⟨b,off,rfl,hb,hcs⟩:=(HC.out.below HB.out).int (by omega);obtain⟨b',off',rfl,hb',hds⟩:=(HD.out.below HB.out).int (by have:=HLN.out;omega);have c0:=hcs k hlt;have d0:=hds k (by have:=HLN.out;omega);have HNE:Hid (xs[k]?.getD 0≠ys[k]?.getD 0→false=decide (xs=ys)):=fun h=>by
    symm;rw[decide_eq_false_iff_not];intro e;exact h (by rw[e])
   have HEQ:Hid (xs[k]?.getD 0=ys[k]?.getD 0→∀j,j<k+1→xs[j]?.getD default=ys[j]?.getD default):=fun h j hj=>by
    by_cases e:j=k
    ·subst e;exact h
    ·exact HP.out j (by omega)
   clear hcs hds;generalize xs[k]?.getD 0=x at*
   generalize ys[k]?.getD 0=y at*
   cases hxy:(x !=y)with
   |true=>
    go_upto_region 6 with fail
    go_quiet (fail)
    go_wp2_with fail
    go_ret
    exact⟨ret_bool (HNE.out (by simpa using hxy)),below_dN HB.out _⟩
   |false=>
    go_upto_region 6 with fail
    go_quiet (fail)
    go_wp2_with fail
    go_roundw
    case rel=>exact⟨k+1,by omega,by go_num,hid (HEQ.out (by simpa using hxy)),below_dN HB.out _⟩
    case measure=>simp[intOf];omega
  ·have hlt':¬(k:Int)<(xs.length:Int):=by omega
   have HT:Hid (true=decide (xs=ys)):=by show _=_;symm;rw[decide_eq_true_iff];exact ext_getD HLN.out fun j hj=>HP.out j (by omega)
   go_wp2_with fail;go_ret;exact⟨ret_bool HT.out,HB.out⟩
end Go.Proofs.YtclgllmipcbagaaGreatDoor
