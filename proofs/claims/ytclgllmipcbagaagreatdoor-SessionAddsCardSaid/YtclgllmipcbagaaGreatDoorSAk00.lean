/-
  Parts of the proof: XSpec2 XAb XP10 XP40 XAb2 XAb5 XAb6 XE1 XW1 XW2
-/
import Derived.Test.YtclgllmipcbagaaGreatDoorBk00
import Derived.Test.YtclgllmipcbagaaGreatDoorBk03
import Derived.Test.YtclgllmipcbagaaGreatDoorBk04
import Derived.Lib.SliceRun
import Derived.Test.YtclgllmipcbagaaGreatDoorBk05
import Derived.Test.YtclgllmipcbagaaGreatDoorBk02
import Derived.Test.YtclgllmipcbagaaGreatDoorBk06
import Derived.Test.YtclgllmipcbagaaGreatDoorBk24
namespace Go.Proofs.YtclgllmipcbagaaGreatDoor
set_option linter.unusedVariables false
set_option linter.unusedSimpArgs false
set_option maxRecDepth 100000
set_option maxHeartbeats 16000000
open Go.RowKit
def mv (g:G)(s:Nat→Int)(v w:Nat):Int:=if v≠w then btw g v w*(s w-s v)else 0
def movedV (g:G)(d s:Nat→Int)(v:Nat):Int:=d v+sumTo (mv g s v) g.n.toNat
theorem owns_intsN {w:World}{base:Nat}{e:TypeId}{a:Option Addr}{N cap:Nat}{xs:List Int}(h:w.ownsRow base e 1 (.slice a N cap) N (xs.map (Value.int .i64)))(hl:xs.length=N)(hb:N≤1000000):IntsR w (.slice a N cap) xs:=by
 subst hl;exact owns_ints h (by omega)
def fireL (g:G)(v:Nat)(L:Nat→Int)(u:Nat):Int:=(if u=v then L u-valence g v else L u)+rowsF g v u
def bddB (N:Nat)(L:Nat→Int):Bool:=(vecOf N L).all inB
def s0Of (ds:List Int):St:=⟨dOf ds,fun _=>0⟩
def lapD (g:G)(N:Nat)(d T:Nat→Int)(u:Nat):Int:=d u-T u*valence g u+sumTo (fun v=>T v*rowsF g v u) N
theorem sumTo_le (f h:Nat→Int):∀n,(∀ k,k<n→f k≤h k)→sumTo f n≤sumTo h n
 |0,_=>Int.le_refl _
 |n+1,H=>by
  show sumTo f n+f n≤sumTo h n+h n;have h1:=sumTo_le f h n fun k hk=>H k (by omega);have h2:=H n (by omega);omega
theorem lapD_fire (g:G)(N:Nat)(d T:Nat→Int)(v:Nat)(k:Int)(hv:v<N)(u:Nat):
 lapD g N d (addT T v k) u=(if u=v then lapD g N d T u-k*valence g v else lapD g N d T u)+k*rowsF g v u:=by
 have h1:sumTo (fun w=>addT T v k w*rowsF g w u) N=sumTo (fun w=>T w*rowsF g w u) N+k*rowsF g v u:=by
  rw[← sumTo_at (fun w=>T w*rowsF g w u) v (k*rowsF g v u) N hv];refine sumTo_congr _ _ N fun w _=> ?_;show addT T v k w*rowsF g w u=if w=v then T w*rowsF g w u+k*rowsF g v u else T w*rowsF g w u;unfold addT;split
  ·rename_i e;subst e;rw[Int.add_mul]
  ·rfl
 unfold lapD;rw[h1];unfold addT;split
 ·rename_i e;subst e;rw[Int.add_mul];omega
 ·omega
def Bal (g:G)(N:Nat)(d:Nat→Int)(s:St):Prop:=(∀ u,u<N→s.L u=lapD g N d s.T u)∧∀u,u<N→0≤s.T u
theorem bal_start (g:G)(N:Nat)(d:Nat→Int):Bal g N d ⟨d,fun _=>0⟩:=by
 refine⟨fun u _=> ?_,fun u _=>Int.le_refl _⟩;show d u=lapD g N d (fun _=>0) u;unfold lapD;have:sumTo (fun v=>(0:Int)*rowsF g v u) N=0:=by
  have h1:sumTo (fun v=>(0:Int)*rowsF g v u) N=sumTo (fun w=>if w=N then(0:Int)else 0) N:=sumTo_congr _ _ N fun k _=>by simp
  rw[h1,sumTo_one];simp
 rw[this];simp
theorem bal_fire {g:G}{N:Nat}{d:Nat→Int}{s:St}(h:Bal g N d s){v:Nat}(hv:v<N){k:Int}(hk:0≤k):Bal g N d (fireK g v k s):=by
 refine⟨fun u hu=> ?_,fun u hu=> ?_⟩
 ·show(if u=v then s.L u-k*valence g v else s.L u)+k*rowsF g v u=lapD g N d (addT s.T v k) u
  rw[lapD_fire g N d s.T v k hv u,h.1 u hu]
 ·show 0≤addT s.T v k u
  have:=h.2 u hu;unfold addT;split<;>omega
theorem c_Clone (ds:List Int)(dv:Value)(w:World)(hd:IntsR w dv ds)(h0:0<ds.length):
 Calls Tryz.prog 126 #[dv] w fun e w'=>∃b c,e= .returned (.slice (some ⟨b,0,none⟩) ds.length c)∧
  w'.ownsRow w.heap.size 3 1 (.slice (some ⟨b,0,none⟩) ds.length c) ds.length (ds.map (Value.int .i64))∧Below w.heap.size w w':=by
 obtain⟨a,cap,rfl,hcap,hcm,hlen,hc⟩:=hd;obtain⟨b,off,rfl,hb,hcs⟩:=hc.int h0;have HC:=hid hc;have qT:∀(w:World) (a:Option Addr) (n c n' c':Nat),(binOp .eql 65 (.slice a n c) (.slice none n' c')).run Tryz.prog w= .ok (.bool a.isNone) w:=fun w a n c n' c'=>Lib.run_eql_slice_nil w 65 3 a n c n' c' Tryz.underDiv;clear hcs hc;go_enter Tryz.func126,Tryz.ntmps126;go_wp2_with (at_builtin;go_loud (refine wpList_clone w rfl _ _ 65 rfl 3 Tryz.underDiv Tryz.infoInt w.heap.size rfl b off cap ds HC.out hlen rfl rfl ?_);intro v' w1 hown hB1 _);obtain⟨b1,c1,rfl,_⟩:=owns_some hown h0;go_wp2;go_ret;exact⟨b1,c1,rfl,hown,hB1⟩
def fE (v u:Nat)(x:E):Int:=if u=v then -(valE v x)else rowE v u x
def movTo (g:G)(v:Nat)(L:Nat→Int)(k u:Nat):Int:=L u+sumE (fE v u) (g.es.take k)
theorem movTo_step (g:G)(v:Nat)(L:Nat→Int)(k u:Nat)(h:k<g.es.length):movTo g v L (k+1) u=movTo g v L k u+fE v u (g.es[k]?.getD default):=by
 unfold movTo;rw[take_step _ _ h,sumE_append];show _=_+sumE _ _+_;have:sumE (fE v u) [g.es[k]?.getD default]=fE v u (g.es[k]?.getD default):=by simp[sumE]
 rw[this];omega
theorem sumE_negv (f:E→Int):∀l:List E,sumE (fun x=> -(f x)) l= -(sumE f l)
 |[]=>rfl
 |x::l=>by unfold sumE;rw[sumE_negv f l];omega
theorem movTo_end {g:G}(h:Gok g)(v:Nat)(L:Nat→Int)(u:Nat):movTo g v L g.es.length u=fireL g v L u:=by
 unfold movTo fireL;rw[List.take_length];by_cases e:u=v
 ·subst e
  have h1:sumE (fE u u) g.es= -(sumE (valE u) g.es):=by
   rw[← sumE_negv];exact sumE_congr _ _ _ fun x _=>by unfold fE;rw[if_pos rfl]
  have h2:=valTo_end h u;unfold valTo at h2;rw[List.take_length]at h2;have h3:rowsF g u u=0:=by unfold rowsF;simp
  rw[h1,h2,if_pos rfl,h3];omega
 ·have h1:sumE (fE v u) g.es=sumE (rowE v u) g.es:=sumE_congr _ _ _ fun x _=>by unfold fE;rw[if_neg e]
  have h2:=rowTo_end h v u;unfold rowTo at h2;rw[List.take_length]at h2;rw[h1,h2,if_neg e]
theorem f_given (g:G)(gv:Value)(hk:Gok g)(ds:List Int)(dv:Value)(w:World)(hg:GrR w gv g)(hd:IntsR w dv ds)(he:dErr ds g.n=0):
 Calls Tryz.prog 194 #[gv,dv] w fun e w'=>e= .returned (.int .i64 0)∧Below w.heap.size w w':=by
 have hg':=hg;obtain⟨ev,rfl,_⟩:=hg';obtain⟨W1,hW1⟩:∃W:World,W=w.alloc (.cells #[.int .i64 g.n,ev] 28):=⟨_,rfl⟩;have kA:Below w.heap.size w W1:=by rw[hW1];exact(Below.refl _ _).alloc (Nat.le_refl _) _
 have hC:=hid (p_Check g _ _ (hg.below kA));have HK:=hid kA;have he1:checkErr g=0:=hk;rw[he1]at hC;have hgn:W1.cell? ⟨w.heap.size,0,none⟩=some (.int .i64 g.n):=by rw[hW1];simp
 have hsz:w.heap.size<W1.heap.size:=by rw[hW1];simp
 have hD:=hid (fun w2 (hB:Below W1.heap.size W1 w2)=>p_chips ds dv g.n w2 ((hd.below kA).below hB));rw[he]at hD;clear kA hg hk he hd he1;go_enter Tryz.func194,Tryz.ntmps194;go_wp2_with fail;rw[← hW1];clear hW1;refine hC.out.mono ?_;rintro e w2 ⟨rfl,hB2⟩;have cg:=(hB2.cell (p:=⟨w.heap.size,0,none⟩) hsz).trans hgn;have HB2:=hid (up HK.out hB2);have hD2:=hid (hD.out w2 hB2);clear hC HK hgn hsz hB2 hD;go_simp;go_wp2_with fail;refine hD2.out.mono ?_;rintro e w3 ⟨rfl,rfl⟩;go_simp;go_wp2_with fail;go_ret;exact⟨rfl,HB2.out⟩
theorem val_rows (g:G)(v N:Nat)(hN:N=g.n.toNat):valence g v=sumTo (rowsF g v) N:=by
 subst hN;unfold valence;refine sumTo_congr _ _ _ fun k _=> ?_;unfold valTerm rowsF;by_cases h:v=k
 ·subst h;simp
 ·rw[if_pos (by omega),if_pos h]
  exact btw_comm g k v
theorem sumTo_mul (k:Int)(f:Nat→Int):∀n,sumTo (fun u=>k*f u) n=k*sumTo f n
 |0=>by show(0:Int)=k*0;simp
 |n+1=>by
  show sumTo (fun u=>k*f u) n+k*f n=k*(sumTo f n+f n);rw[sumTo_mul k f n,Int.mul_add]
theorem fireK_sum {g:G}{N:Nat}(hN:N=g.n.toNat)(s:St){v:Nat}(hv:v<N)(k:Int):sumTo (fireK g v k s).L N=sumTo s.L N:=by
 have h1:sumTo (fireK g v k s).L N=sumTo (fun u=>(if u=v then s.L u+ -(k*valence g v)else s.L u)+k*rowsF g v u) N:=sumTo_congr _ _ _ fun u _=>by
  show(if u=v then s.L u-k*valence g v else s.L u)+k*rowsF g v u=_;split<;>omega
 rw[h1,sumTo_add,sumTo_at s.L v _ N hv,sumTo_mul,←val_rows g v N hN];omega
theorem stGo_sum {g:G}(hg:Gok g)(q:Nat)(N:Nat)(hN:N=g.n.toNat)(hpos:∀v,v<N→v≠q→0<valence g v):∀f t s r,(∀ u,u<N→u≠q→0≤s.L u)→stGo g q N f t s=some r→sumTo r.L N=sumTo s.L N∧∀u,u<N→u≠q→0≤r.L u
 |0,t,s,r,h0,h=>by
  unfold stGo at h;split at h
  ·obtain rfl:=Option.some.inj h;exact⟨rfl,h0⟩
  ·cases h
 |f+1,t,s,r,h0,h=>by
  unfold stGo at h;cases hw:waitN g q N s.L with
  |nil=>rw[hw]at h;obtain rfl:=Option.some.inj h;exact⟨rfl,h0⟩
  |cons x l=>
   rw[hw]at h
   dsimp only at h
   obtain⟨v,rfl,hv,hq,hle⟩:=wait_head hw
   rw[Int.toNat_natCast]at h
   obtain⟨k1,k2⟩:=div_legal (hpos v hv (by omega)) hle
   generalize s.L v/valence g v=k at*
   by_cases hm:(maxF:Int)<t+k
   ·rw[if_pos hm]at h;cases h
   ·rw[if_neg hm]at h
    have h0':∀u,u<N→u≠q→0≤(fireK g v k s).L u:=fun u hu hq'=>by
     have:=h0 u hu hq';have hr:=rowsF_bd hg v u;have hkr:0≤k*rowsF g v u:=Int.mul_nonneg (by omega) hr.1;show 0≤(if u=v then s.L u-k*valence g v else s.L u)+k*rowsF g v u;split
     ·rename_i e;subst e;omega
     ·omega
    obtain⟨a,b⟩:=stGo_sum hg q N hN hpos f (t+k) _ r h0' h;exact⟨by rw[a,fireK_sum hN s hv k],b⟩
theorem sumTo_ge2 (f:Nat→Int)(q:Nat):∀n,(∀ k,k<n→k≠q→0≤f k)→q<n→f q≤sumTo f n:=by
 intro n;induction n with
 |zero=>intro _ h;omega
 |succ n ih=>
  intro h hq
  show f q≤sumTo f n+f n
  by_cases e:q=n
  ·subst e
   have h0:∀m,m≤q→0≤sumTo f m:=fun m=>by
    induction m with
    |zero=>intro _;exact Int.le_refl _
    |succ m ihm=>intro hm;show 0≤sumTo f m+f m;have:=ihm (by omega);have:=h m (by omega) (by omega);omega
   have:=h0 q (Nat.le_refl _);omega
  ·have:=ih (fun k hk=>h k (by omega)) (by omega)
   have:=h n (by omega) (fun h=>e h.symm);omega
theorem sumTo_up (f:Nat→Int)(c:Int):∀n:Nat,(∀ k,k<n→f k≤c)→sumTo f n≤n*c
 |0,_=>by show(0:Int)≤_;simp
 |n+1,h=>by
  have ih:=sumTo_up f c n fun k hk=>h k (by omega);have:=h n (by omega);show sumTo f n+f n≤_;rw[Int.natCast_add,Int.add_mul];omega
theorem sumTo_zero:∀n,sumTo (fun _=>(0:Int)) n=0
 |0=>rfl
 |n+1=>by unfold sumTo;rw[sumTo_zero n];rfl
end Go.Proofs.YtclgllmipcbagaaGreatDoor
namespace Go.Proofs.YtclgllmipcbagaaGreatDoor
set_option linter.unusedVariables false
set_option linter.unusedSimpArgs false
set_option maxRecDepth 100000
set_option maxHeartbeats 16000000
structure CgOk (g:G)(ds:List Int):Prop where
 gok:Gok g
 con:parts g=1
 len:(ds.length:Int)=g.n
 lo:∀u,u<ds.length→0≤dOf ds u
 hi:sumTo (dOf ds) ds.length≤1048576
theorem sum_ge1 (f:Nat→Int):∀n,(∀ k,k<n→0≤f k)→(∀ k,k<n→f k≤sumTo f n)∧0≤sumTo f n
 |0,_=>⟨fun k hk=>by omega,Int.le_refl _⟩
 |n+1,h=>by
  have ih:=sum_ge1 f n (fun k hk=>h k (by omega));have hn:=h n (by omega);have e:sumTo f (n+1)=sumTo f n+f n:=rfl;refine⟨fun k hk=> ?_,by omega⟩;by_cases hkn:k=n
  ·subst hkn;omega
  ·have:=ih.1 k (by omega);omega
theorem CgOk.each {g:G}{ds:List Int}(h:CgOk g ds)(u:Nat)(hu:u<ds.length):0≤dOf ds u∧dOf ds u≤1048576:=
 ⟨h.lo u hu,Int.le_trans ((sum_ge1 _ _ h.lo).1 u hu) h.hi⟩
theorem CgOk.all {g:G}{ds:List Int}(h:CgOk g ds):∀k∈ds,0≤k∧k≤1048576:=fun k hk=>by
 obtain⟨u,hu,rfl⟩:=List.mem_iff_getElem.1 hk;have:=h.each u hu;unfold dOf at this;rw[List.getElem?_eq_getElem hu]at this;exact this
theorem CgOk.dErr {g:G}{ds:List Int}(h:CgOk g ds):dErr ds g.n=0:=by
 have hn:=h.gok.n;have hl:=h.len;unfold Go.Proofs.YtclgllmipcbagaaGreatDoor.dErr;rw[if_neg (by omega),if_neg (by omega),if_pos];refine List.all_eq_true.2 fun k hk=> ?_;have:=h.all k hk;unfold inB;simp;omega
structure Cg (g:G)(N:Nat)(ds:List Int)(s:St):Prop where
 bal:Bal g N (dOf ds) s
 nn:∀u,0≤s.L u
 sum:sumTo s.L N=sumTo (dOf ds) N
theorem Cg.start {g:G}{ds:List Int}(h:CgOk g ds){N:Nat}:Cg g N ds (s0Of ds):=by
 refine⟨bal_start g N _,fun u=> ?_,rfl⟩;by_cases hu:u<ds.length
 ·exact h.lo u hu
 ·show 0≤dOf ds u
  unfold dOf;rw[List.getElem?_eq_none (by omega)];exact Int.le_refl _
theorem dOf_vec (N:Nat)(L:Nat→Int)(u:Nat)(hu:u<N):dOf (vecOf N L) u=L u:=vecOf_get _ _ _ hu
theorem sumTo_vec (N:Nat)(L:Nat→Int):sumTo (dOf (vecOf N L)) N=sumTo L N:=sumTo_congr _ _ N fun k hk=>dOf_vec N L k hk
theorem Cg.ok {g:G}{ds:List Int}(h:CgOk g ds){N:Nat}(hN:N=g.n.toNat){s:St}(hs:Cg g N ds s):CgOk g (vecOf N s.L):=by
 have hn:=h.gok.n;have hl:=h.len;refine⟨h.gok,h.con,by rw[vecOf_len];omega,fun u hu=> ?_,?_⟩
 ·rw[vecOf_len]at hu
  rw[dOf_vec _ _ _ hu];exact hs.nn u
 ·rw[vecOf_len,sumTo_vec,hs.sum]
  have:=h.hi;rwa[show ds.length=N by omega]at this
end Go.Proofs.YtclgllmipcbagaaGreatDoor
namespace Go.Proofs.YtclgllmipcbagaaGreatDoor
set_option linter.unusedVariables false
set_option linter.unusedSimpArgs false
set_option maxRecDepth 100000
set_option maxHeartbeats 16000000
open Go.RowKit
inductive Leg (g:G)(q:Int)(N:Nat)(d:Nat→Int):(Nat→Int)→(Nat→Int)→Prop
 |start:Leg g q N d d (fun _=>0)
 |fire {L T:Nat→Int} (h:Leg g q N d L T) (v:Nat) (hv:v<N) (hq:(v:Int)≠q) (hu:valence g v≤L v):Leg g q N d (fireK g v 1 ⟨L,T⟩).L (fireK g v 1 ⟨L,T⟩).T
theorem Leg.bal {g:G}{q:Int}{N:Nat}{d L T:Nat→Int}(h:Leg g q N d L T):Bal g N d ⟨L,T⟩:=by
 induction h with
 |start=>exact bal_start g N d
 |fire h v hv hq hu ih=>exact bal_fire ih hv (by omega)
theorem Leg.nn {g:G}(hg:Gok g){q:Int}{N:Nat}{d L T:Nat→Int}(h:Leg g q N d L T)(hd:∀u:Nat,(u:Int)≠q→0≤d u):∀u:Nat,(u:Int)≠q→0≤L u:=by
 induction h with
 |start=>exact hd
 | @fire L T h v hv hq hu ih=>
   intro u hne
   show 0≤(if u=v then L u-1*valence g v else L u)+1*rowsF g v u
   have h1:=ih u hne
   have h2:=(rowsF_bd hg v u).1
   split
   ·rename_i e;subst e;omega
   ·omega
theorem Leg.sink {g:G}{q:Int}{N:Nat}{d L T:Nat→Int}(h:Leg g q N d L T):∀u:Nat,(u:Int)=q→T u=0:=by
 induction h with
 |start=>exact fun _ _=>rfl
 | @fire L T h v hv hq hu ih=>
   intro u hun
   show addT T v 1 u=0
   unfold addT
   rw[if_neg (fun e=>hq (by rw[← e];exact hun))]
   exact ih u hun
theorem Leg.sum {g:G}{q:Int}{N:Nat}(hN:N=g.n.toNat){d L T:Nat→Int}(h:Leg g q N d L T):sumTo L N=sumTo d N:=by
 induction h with
 |start=>rfl
 | @fire L T h v hv hq hu ih=>rw[fireK_sum hN ⟨L,T⟩ hv 1];exact ih
structure PilOk (g:G)(q:Int)(ds:List Int)(Q:Nat):Prop where
 gok:Gok g
 qq:q=Q
 qN:Q<g.n.toNat
 len:ds.length=g.n.toNat
 pos:∀v:Nat,v<g.n.toNat→(v:Int)≠q→0<valence g v
 d60:∀u,-60≤dOf ds u∧dOf ds u≤60
 dnn:∀u:Nat,(u:Int)≠q→0≤dOf ds u
theorem Leg.bd {g:G}{q:Int}{ds:List Int}{Q:Nat}(hp:PilOk g q ds Q){L T:Nat→Int}(h:Leg g q g.n.toNat (dOf ds) L T):∀u,u<g.n.toNat→ -60≤L u∧L u≤800:=by
 have hn:=hp.gok.n;have h1:=h.sum rfl;have h2:=sumTo_up (dOf ds) 60 g.n.toNat (fun u _=>(hp.d60 u).2);have hnn:=h.nn hp.gok hp.dnn;have hq: -60≤L Q:=by
  have:=h.bal.1 Q hp.qN;show _≤L Q;have e:(⟨L,T⟩:St).L Q=L Q:=rfl;rw[e]at this;rw[this];unfold lapD;have hsk:(⟨L,T⟩:St).T Q=0:=h.sink Q hp.qq.symm;rw[hsk];have h3:0≤sumTo (fun v=>T v*rowsF g v Q) g.n.toNat:=by
   have:sumTo (fun _=>(0:Int)) g.n.toNat≤sumTo (fun v=>T v*rowsF g v Q) g.n.toNat:=sumTo_le _ _ _ fun k hk=>Int.mul_nonneg (h.bal.2 k hk) (rowsF_bd hp.gok k Q).1;rw[sumTo_zero]at this;exact this
  have:=(hp.d60 Q).1;dsimp only;omega
 intro u hu;by_cases hne:u=Q
 ·subst hne
  have h4:=sumTo_ge2 L u g.n.toNat (fun k hk hkn=>hnn k (by rw[hp.qq];omega)) hp.qN;omega
 ·have h0:=hnn u (by rw[hp.qq];omega)
  refine⟨by omega,?_⟩;have h5:=sumTo_ge2 (fun i=>if i=Q then 0 else L i) u g.n.toNat (fun k hk hkn=>by split;exact Int.le_refl _;exact hnn k (by rw[hp.qq];omega)) hu;rw[if_neg hne]at h5;have h6:sumTo (fun i=>if i=Q then 0 else L i) g.n.toNat=sumTo L g.n.toNat-L Q:=by
   have:=sumTo_at (fun i=>if i=Q then 0 else L i) Q (L Q) g.n.toNat hp.qN;rw[show (fun w=>if w=Q then(if w=Q then 0 else L w)+L Q else if w=Q then 0 else L w)=L from funext fun w=>by by_cases e:w=Q<;>simp[e]]at this;omega
  omega
theorem moved_lap (g:G)(d s:Nat→Int)(u:Nat)(hu:u<g.n.toNat):movedV g d s u=lapD g g.n.toNat d s u:=by
 unfold movedV lapD;rw[val_rows g u _ rfl];have e:sumTo (mv g s u) g.n.toNat+s u*sumTo (rowsF g u) g.n.toNat=sumTo (fun v=>s v*rowsF g v u) g.n.toNat:=by
  have e1:s u*sumTo (rowsF g u) g.n.toNat=sumTo (fun w=>s u*rowsF g u w) g.n.toNat:=(sumTo_mul (s u) (rowsF g u) g.n.toNat).symm;rw[e1,←sumTo_add];refine sumTo_congr _ _ _ fun k hk=> ?_;unfold mv rowsF;by_cases h:u=k
  ·subst h;simp
  ·rw[if_pos h,if_pos h,if_pos (fun e=>h e.symm),btw_comm g k u,Int.mul_sub,Int.mul_comm (s u),Int.mul_comm (s k)];omega
 omega
def fS (s:Nat→Int)(u:Nat)(x:E):Int:=(if (u:Int)=x.b then x.m*(s x.a.toNat-s x.b.toNat)else 0)-(if (u:Int)=x.a then x.m*(s x.a.toNat-s x.b.toNat)else 0)
theorem fS_edge (s:Nat→Int)(A B:Nat)(m:Int)(X:Nat→Int)(u:Nat):
 (if u=B then(if B=A then X A-m*(s A-s B)else X B)+m*(s A-s B)else if u=A then X A-m*(s A-s B)else X u)=X u+fS s u ⟨A,B,m⟩:=by
 unfold fS;dsimp only;rw[Int.toNat_natCast,Int.toNat_natCast];generalize m*(s A-s B)=f;by_cases h1:u=B
 ·subst h1
  by_cases h2:u=A
  ·subst h2;simp
  ·have h3:¬(u:Int)=(A:Int):=by omega
   simp[h2,h3]
 ·have h3:¬(u:Int)=(B:Int):=by omega
  by_cases h2:u=A
  ·subst h2;simp[h1,h3];omega
  ·have h4:¬(u:Int)=(A:Int):=by omega
   simp[h1,h2,h3,h4]
theorem sum_fE (s:Nat→Int)(A B:Nat)(m:Int)(u N:Nat)(hA:A<N)(hB:B<N):sumTo (fun v=>s v*fE v u ⟨A,B,m⟩) N=fS s u ⟨A,B,m⟩:=by
 have e:∀v,s v*fE v u ⟨A,B,m⟩=(if v=A then s A*fE A u ⟨A,B,m⟩else 0)+(if v=B then(if A=B then 0 else s B*fE B u ⟨A,B,m⟩)else 0):=fun v=>by
  by_cases h1:v=A
  ·subst h1
   by_cases h2:v=B
   ·subst h2;simp
   ·simp[h2]
  ·by_cases h2:v=B
   ·subst h2
    have:¬A=v:=fun h=>h1 h.symm;simp[h1,this]
   ·have z:fE v u ⟨A,B,m⟩=0:=by
     unfold fE valE rowE;have h3:¬(A:Int)=(v:Int):=by omega
     have h4:¬(B:Int)=(v:Int):=by omega
     simp[h3,h4]
    rw[z];simp[h1,h2]
 rw[sumTo_congr _ _ N fun v _=>e v,sumTo_add,sumTo_one,sumTo_one,if_pos hA,if_pos hB];unfold fS fE valE rowE;dsimp only;rw[Int.toNat_natCast,Int.toNat_natCast];by_cases hAB:A=B
 ·subst hAB;simp
 ·have h0:¬(A:Int)=(B:Int):=by omega
  have h0':¬(B:Int)=(A:Int):=by omega
  have h0'':¬B=A:=fun h=>hAB h.symm;by_cases h1:u=B
  ·subst h1
   simp[hAB,h0,h0',h0'',Int.mul_sub,Int.mul_comm];rw[Int.mul_neg,Int.mul_comm (s u) m];omega
  ·have h3:¬(u:Int)=(B:Int):=by omega
   have h3':¬(B:Int)=(u:Int):=by omega
   by_cases h2:u=A
   ·subst h2
    simp[hAB,h0,h0',h0'',h1,h3,h3',Int.mul_sub,Int.mul_comm];rw[Int.mul_neg,Int.mul_comm (s u) m];omega
   ·have h4:¬(u:Int)=(A:Int):=by omega
    have h4':¬(A:Int)=(u:Int):=by omega
    simp[h0,h0',h1,h2,h3,h3',h4,h4',hAB]
def movS (g:G)(N:Nat)(s:Nat→Int)(L:Nat→Int)(k u:Nat):Int:=L u+sumTo (fun v=>s v*sumE (fE v u) (g.es.take k)) N
theorem movS_zero (g:G)(N:Nat)(s:Nat→Int)(L:Nat→Int)(u:Nat):movS g N s L 0 u=L u:=by
 unfold movS;rw[sumTo_congr _ (fun _=>0) N fun v _=>by simp[sumE],sumTo_zero];omega
theorem movS_step (g:G)(N:Nat)(s:Nat→Int)(L:Nat→Int)(k u:Nat)(h:k<g.es.length):movS g N s L (k+1) u=movS g N s L k u+sumTo (fun v=>s v*fE v u (g.es[k]?.getD default)) N:=by
 unfold movS;have e:∀v,s v*sumE (fE v u) (g.es.take (k+1))=s v*sumE (fE v u) (g.es.take k)+s v*fE v u (g.es[k]?.getD default):=fun v=>by
  have:=movTo_step g v L k u h;unfold movTo at this;rw[show sumE (fE v u) (g.es.take (k+1))=sumE (fE v u) (g.es.take k)+fE v u (g.es[k]?.getD default) by omega,Int.mul_add]
 rw[sumTo_congr _ _ N fun v _=>e v,sumTo_add];omega
theorem movS_end {g:G}(h:Gok g)(N:Nat)(hN:N=g.n.toNat)(s:Nat→Int)(L:Nat→Int)(u:Nat)(hu:u<N):movS g N s L g.es.length u=movedV g L s u:=by
 subst hN;rw[moved_lap g L s u hu];unfold movS lapD;have e:∀v,s v*sumE (fE v u) (g.es.take g.es.length)=(if v=u then -(s u*valence g u)else 0)+s v*rowsF g v u:=fun v=>by
  have h1:=movTo_end h v (fun _=>0) u;unfold movTo fireL at h1;rw[show sumE (fE v u) (g.es.take g.es.length)=(if u=v then 0-valence g v else 0)+rowsF g v u by omega];by_cases e:v=u
  ·subst e;rw[if_pos rfl,if_pos rfl,Int.mul_add,Int.zero_sub,Int.mul_neg]
  ·rw[if_neg e,if_neg (fun h=>e h.symm),Int.zero_add,Int.zero_add]
 rw[sumTo_congr _ _ _ fun v _=>e v,sumTo_add,sumTo_one,if_pos hu];omega
theorem fS_bd (s:Nat→Int)(N:Nat)(hs:∀u,u<N→ -1048576≤s u∧s u≤1048576)(A B:Nat)(hA:A<N)(hB:B<N)(m:Int)(hm:0≤m∧m≤50)(u:Nat): -419430400≤fS s u ⟨A,B,m⟩∧fS s u ⟨A,B,m⟩≤419430400:=by
 unfold fS;dsimp only;rw[Int.toNat_natCast,Int.toNat_natCast];have oA:=hs A hA;have oB:=hs B hB;have hfl: -209715200≤m*(s A-s B)∧m*(s A-s B)≤209715200:=by
  have h1:=Int.mul_le_mul hm.2 (show s A-s B+2097152≤4194304 by omega) (by omega) (by omega);have h2:=Int.mul_le_mul hm.2 (show 2097152-(s A-s B)≤4194304 by omega) (by omega) (by omega);rw[Int.mul_add]at h1;rw[Int.mul_sub]at h2;omega
 split<;>split<;>omega
theorem movS_bd {g:G}(h:Gok g)(N:Nat)(s:Nat→Int)(hs:∀u,u<N→ -1048576≤s u∧s u≤1048576)(L:Nat→Int)(u:Nat)(hL: -1000000000000≤L u∧L u≤1000000000000)(hN:g.n≤N):∀k,k≤g.es.length→ -1000000000000-419430400*k≤movS g N s L k u∧movS g N s L k u≤1000000000000+419430400*k
 |0,_=>by rw[movS_zero];omega
 |k+1,hk=>by
  have ih:=movS_bd h N s hs L u hL hN k (by omega);rw[movS_step g N s L k u (by omega)];have hm:=h.mem (x:=g.es[k]?.getD default) (by rw[List.getElem?_eq_getElem (by omega)];exact List.getElem_mem _);generalize g.es[k]?.getD default=x at*
  obtain⟨xa,xb,xm⟩:=x;dsimp only at hm;obtain⟨A,rfl⟩:=Int.eq_ofNat_of_zero_le (show 0≤xa by omega);obtain⟨B,rfl⟩:=Int.eq_ofNat_of_zero_le (show 0≤xb by omega);rw[sum_fE s A B xm u N (by omega) (by omega)];have:=fS_bd s N hs A B (by omega) (by omega) xm (by omega) u;omega
theorem f_alongS (N A B m:Nat)(hA:A<N)(hB:B<N)(hm:m≤50)(s:Nat→Int)(hs:∀u,u<N→ -1048576≤s u∧s u≤1048576)(X:Nat→Int)(hX:∀u,u<N→ -2000000000000≤X u∧X u≤2000000000000)(base bs bo bl cl bz zo cz:Nat)(w:World)
 (c1:w.cell? ⟨bs,0,none⟩=some (.slice (some ⟨bz,zo,none⟩) N cz)) (c2:w.cell? ⟨bo,0,none⟩=some (.slice (some ⟨bl,0,none⟩) N cl)) (hz:∀u,u<N→w.cell? ⟨bz,zo+u,none⟩=some (.int .i64 (s u)))
 (ho:w.ownsRow base 3 1 (.slice (some ⟨bl,0,none⟩) N cl) N ((vecOf N X).map (Value.int .i64))) (n1:bs≠bl) (n2:bo≠bl) (n3:bz≠bl) (hbs:bs<w.heap.size) (hbo:bo<w.heap.size) (hbz:bz<w.heap.size) (hbase:base≤w.heap.size):
 Calls Tryz.prog 258 #[.agg #[.int .i64 A,.int .i64 B,.int .i64 m],.pointer (some ⟨bs,0,none⟩),.pointer (some ⟨bo,0,none⟩)] w fun e w'=>e= .returned (.tuple #[])∧
  w'.ownsRow base 3 1 (.slice (some ⟨bl,0,none⟩) N cl) N ((vecOf N fun u=>X u+fS s u ⟨A,B,m⟩).map (Value.int .i64))∧KeptB w w' (fun k=>k=bl)∧Below base w w':=by
 have hbl:=owns_lt ho;have z1:=hz A hA;have z2:=hz B hB;have hA0:(0:Int)≤(A:Int):=by omega
 have hA1:(A:Int)<(N:Int):=by omega
 have hB0:(0:Int)≤(B:Int):=by omega
 have hB1:(B:Int)<(N:Int):=by omega
 have oA:=hs A hA;have oB:=hs B hB;have HFE:=hid (fun u=>fS_edge s A B m X u);have HXb:=hid hX;have w1:IntKind.i64.wrap (s A-s B)=s A-s B:=IntWalk.i64_in _ (by omega);have hfl: -209715200≤(m:Int)*(s A-s B)∧(m:Int)*(s A-s B)≤209715200:=by
  have h1:=Int.mul_le_mul (show (m:Int)≤50 by omega) (show s A-s B+2097152≤4194304 by omega) (by omega) (by omega);have h2:=Int.mul_le_mul (show (m:Int)≤50 by omega) (show 2097152-(s A-s B)≤4194304 by omega) (by omega) (by omega);rw[Int.mul_add]at h1;rw[Int.mul_sub]at h2;omega
 have w2:IntKind.i64.wrap ((m:Int)*(s A-s B))=(m:Int)*(s A-s B):=IntWalk.i64_in _ (by omega);have HW:Hid (Below w.heap.size w (w.alloc (.cells #[.int .i64 A,.int .i64 B,.int .i64 m] 150))):=(Below.refl _ _).alloc (Nat.le_refl _) _;have HO:=hid ho;clear hX ho hz oA oB hs;generalize hp:s A=p at*
 generalize hq:s B=r at*
 clear hp hq;go_enter Tryz.func258,Tryz.ntmps258;go_upto_region 1 with fail;obtain⟨W1,hW1⟩:∃W:World,W=w.alloc (.cells #[.int .i64 A,.int .i64 B,.int .i64 m] 150):=⟨_,rfl⟩;rw[← hW1];have hE:Blk W1 w.heap.size #[.int .i64 A,.int .i64 B,.int .i64 m] 150:=by rw[hW1];exact Blk.new _ _ _
 rw[← hW1]at HW;clear hW1;have e0:=hE.cell 0;have e1:=hE.cell 1;have e2:=hE.cell 2;simp only[xG,xH,xI]at e0 e1 e2;have d1:=(HW.out.cell (p:=⟨bs,0,none⟩) hbs).trans c1;have d2:=(HW.out.cell (p:=⟨bo,0,none⟩) hbo).trans c2;have y1:=(HW.out.cell (p:=⟨bz,zo+A,none⟩) hbz).trans z1;have y2:=(HW.out.cell (p:=⟨bz,zo+B,none⟩) hbz).trans z2
 let S:World→Prop:=fun w'=>w'.cell? ⟨w.heap.size,0,none⟩=some (.int .i64 A)∧w'.cell? ⟨w.heap.size,1,none⟩=some (.int .i64 B)∧w'.cell? ⟨w.heap.size,2,none⟩=some (.int .i64 m)∧w'.cell? ⟨bs,0,none⟩=some (.slice (some ⟨bz,zo,none⟩) N cz)∧
  w'.cell? ⟨bz,zo+A,none⟩=some (.int .i64 p)∧w'.cell? ⟨bz,zo+B,none⟩=some (.int .i64 r)
 (refine wp_region_text 14 [0,1,2,3,4,5,6,7,8,9,10,11,12,13] S (by kernel_rfl) (by kernel_rfl) (by intro _ _ d _ _ h;cases d<;>exact h) ?hS ?_;rotate_left;simp only[xA,xB,xC,xD,xE,xF]);case hS=>exact⟨e0,e1,e2,d1,y1,y2⟩
 (repeat ((refine' wpSeq_take rfl _ (by rfl) ?_ ?_;rotate_left;focus(intro w' hS;(try dsimp only at hS);obtain⟨s1,s2,s3,s4,s5,s6⟩:=hS;go_simp;(first|done|with_reducible rfl));(try go_frame));(try go_frame)));refine wpSeq_nil ?_;clear S;generalize (m:Int)*(p-r)=fl at*
 have HO1:=hid (owns_below HO.out HW.out);have cA:=owns_int HO1.out A hA;rw[vecOf_get _ _ _ hA]at cA;have fA:=HO1.out.frozenAt A;have lA:=(owns_lt HO1.out).2;have hXA:=HXb.out A hA;have hXB:=HXb.out B hB;have w3:IntKind.i64.wrap (X A-fl)=X A-fl:=IntWalk.i64_in _ (by omega);clear d1 y1 y2 c1 z1 z2 w1 w2;go_upto_region 3 with fail;obtain⟨W2,hW2⟩:∃W:World,W=(W1.setCell ⟨bl,A,none⟩ (.int .i64 (X A-fl))).drew:=⟨_,rfl⟩;rw[← hW2];have HO2:Hid (W2.ownsRow base 3 1 (.slice (some ⟨bl,0,none⟩) N cl) N ((vecOf N fun u=>if u=A then X A-fl else X u).map (Value.int .i64))):=by
  have h:=owns_set (f:=Value.int .i64) HO1.out A (X A-fl);rw[vecOf_set]at h;rw[hW2];exact h.drew
 have HK2:Hid (KeptB w W2 (fun k=>k=bl)):=by
  rw[hW2];exact kept_trans (kept_set (p:=fun k=>k=bl) (kept_below HW.out) (b:=bl) rfl _ _) (kept_below (p:=fun _=>False) (Below.drew (Below.refl _ _))) (fun _ h=>h.elim)
 have HB2:Hid (Below base w W2):=by
  rw[hW2];exact((HW.out.mono hbase).setCell (p:=⟨bl,A,none⟩) hbl.1 _).drew
 have hE2:Blk W2 w.heap.size #[.int .i64 A,.int .i64 B,.int .i64 m] 150:=by
  rw[hW2];exact(hE.other (by omega) _ _)
 have d2':W2.cell? ⟨bo,0,none⟩=some (.slice (some ⟨bl,0,none⟩) N cl):=(HK2.out.cell bo 0 hbo n2).trans c2;clear hW2 hE e0 e1 e2 d2 cA fA lA w3 HO1 c2;have e0:=hE2.cell 0;have e1:=hE2.cell 1;simp only[xG,xH,xI]at e0 e1;have cB:=owns_int HO2.out B hB;rw[vecOf_get _ _ _ hB]at cB;have fB:=HO2.out.frozenAt B;have lB:=(owns_lt HO2.out).2;have hyb: -3000000000000≤(if B=A then X A-fl else X B)∧(if B=A then X A-fl else X B)≤3000000000000:=by split<;>omega
 have HO3:Hid ((W2.setCell ⟨bl,B,none⟩ (.int .i64 ((if B=A then X A-fl else X B)+fl))).ownsRow base 3 1 (.slice (some ⟨bl,0,none⟩) N cl) N ((vecOf N fun u=>X u+fS s u ⟨A,B,m⟩).map (Value.int .i64))):=by
  have h:=owns_set (f:=Value.int .i64) HO2.out B ((if B=A then X A-fl else X B)+fl);rw[vecOf_set]at h;rw[vecOf_congr N _ (fun u=>X u+fS s u ⟨A,B,m⟩) (fun u _=>HFE.out u)]at h;exact h
 have HK3:=hid (kept_set (p:=fun k=>k=bl) HK2.out (b:=bl) rfl B (.int .i64 ((if B=A then X A-fl else X B)+fl)));have HB3:=hid (HB2.out.setCell (p:=⟨bl,B,none⟩) hbl.1 (.int .i64 ((if B=A then X A-fl else X B)+fl)));generalize (if B=A then X A-fl else X B)=y at*
 have w4:IntKind.i64.wrap (y+fl)=y+fl:=IntWalk.i64_in _ (by omega);clear HFE HXb HO hE2 hXA hXB hyb;go_wp2;go_end0;exact⟨rfl,HO3.out,HK3.out,HB3.out⟩
theorem f_movedS (g:G)(gv:Value)(N:Nat)(hN1:(N:Int)≤g.n)(hN2:g.n≤(N:Int))(hk:Gok g)(s:Nat→Int)(hsb:∀u,u<N→ -1048576≤s u∧s u≤1048576)(L:Nat→Int)(hL:∀u,u<N→ -1000000000000≤L u∧L u≤1000000000000)(dv:Value)(bz zo cz:Nat)(w:World)
 (hg:GrR w gv g) (hd:IntsR w dv (vecOf N L)) (hz:∀u,u<N→w.cell? ⟨bz,zo+u,none⟩=some (.int .i64 (s u))) (hbz:bz<w.heap.size):
 Calls Tryz.prog 197 #[gv,dv,.slice (some ⟨bz,zo,none⟩) N cz] w fun e w'=>∃b c,e= .returned (.slice (some ⟨b,0,none⟩) N c)∧w'.ownsRow w.heap.size 3 1 (.slice (some ⟨b,0,none⟩) N c) N ((vecOf N (movedV g L s)).map (Value.int .i64))∧Below w.heap.size w w':=by
 have hg':=hg;obtain⟨ev,rfl,a,cap,rfl,hcap,hcm,hlen,hc⟩:=hg';have hn:=hk.n;have HK:=hid hk;obtain⟨W1,hW1⟩:∃W:World,W=(w.alloc (.cells #[.int .i64 g.n,.slice a g.es.length cap] 28)).alloc (.cells #[.slice (some ⟨bz,zo,none⟩) N cz] 201):=⟨_,rfl⟩;have hB1:Below w.heap.size w W1:=by rw[hW1];exact((Below.refl _ _).alloc (Nat.le_refl _) _).alloc (by simp) _
 have g1:W1.cell? ⟨w.heap.size,1,none⟩=some (.slice a g.es.length cap):=by rw[hW1];simp
 have z0:W1.cell? ⟨w.heap.size+1,0,none⟩=some (.slice (some ⟨bz,zo,none⟩) N cz):=by rw[hW1];simp
 have hs1:W1.heap.size=w.heap.size+2:=by rw[hW1];simp
 have hcl:=hid (c_Clone (vecOf N L) dv W1 (hd.below hB1) (by rw[vecOf_len];omega));rw[vecOf_len]at hcl;have HCE:=hid (hc.below hB1);have HZ:=hid (fun u hu=>(hB1.cell (p:=⟨bz,zo+u,none⟩) hbz).trans (hz u hu));have HB1:=hid hB1;have HLb:=hid hL;have HSb:=hid hsb;have hgl:=hk.len;have hEN:=hid (fun k (h:k<g.es.length)=>hk.ends k h);have hEM:=hid (fun k (h:k<g.es.length)=>hk.mem (x:=g.es[k]?.getD default) (by rw[List.getElem?_eq_getElem h];exact List.getElem_mem h));have hmf:∀(fn:Fn) (first cap:Array Value) (w:World),(Instr.makeFunc fn first cap).run Tryz.prog w= .ok (.func fn first cap) w:=fun _ _ _ _=>rfl
 clear hd hc hz hB1 hL hg hk hsb;go_enter Tryz.func197,Tryz.ntmps197;go_wp2_with fail;rw[← hW1];clear hW1;refine hcl.out.mono ?_;rintro e W2 ⟨bl,cl,rfl,hO,hB2⟩;have hbl:=owns_lt hO;obtain⟨W3,hW3⟩:∃W:World,W=W2.alloc (.cells #[.slice (some ⟨bl,0,none⟩) N cl] 65):=⟨_,rfl⟩;have hB3:Below W1.heap.size W1 W3:=by rw[hW3];exact hB2.alloc hB2.size _
 have HO3:Hid (W3.ownsRow W1.heap.size 3 1 (.slice (some ⟨bl,0,none⟩) N cl) N ((vecOf N (movS g N s L 0)).map (Value.int .i64))):=by
  rw[vecOf_congr N (movS g N s L 0) L (fun u _=>movS_zero g N s L u),hW3];exact hO.alloc _
 have o0:W3.cell? ⟨W2.heap.size,0,none⟩=some (.slice (some ⟨bl,0,none⟩) N cl):=by rw[hW3];simp
 have hs2:=hB2.size;have hs3:W3.heap.size=W2.heap.size+1:=by rw[hW3];simp
 have HB3:=hid hB3;have g3:=(hB3.cell (p:=⟨w.heap.size,1,none⟩) (by dsimp only;omega)).trans g1;have HG3:=hid ((hB3.cell (p:=⟨w.heap.size+1,0,none⟩) (by dsimp only;omega)).trans z0);have HZ3:=hid (fun u hu=>(hB3.cell (p:=⟨bz,zo+u,none⟩) (by dsimp only;omega)).trans (HZ.out u hu));have HCE3:=hid (HCE.out.below hB3);have hbold:Hid (∀ b' off',a=some ⟨b',off',none⟩→g.es≠[]→b'<W1.heap.size):=fun b' off' e hne=>by
  rcases HCE.out with h|⟨b2,o2,e2,h2,_⟩
  ·exfalso;cases hg':g.es with|nil=>exact hne hg'|cons x l=>rw[hg']at h;simp[E.cells]at h
  ·rw[e]at e2;injection e2 with e3;injection e3 with e4;omega
 clear hcl hO hB2 hB3 HZ HCE z0 g1;go_simp;go_upto_region 3 with fail;rw[← hW3];have HO0:=hid o0;clear hW3 o0;go_wp2;go_loopw [17] (fun i wr=>∃k:Nat,k≤g.es.length∧i= .int .i64 k∧Hid (wr.ownsRow W1.heap.size 3 1 (.slice (some ⟨bl,0,none⟩) N cl) N ((vecOf N (movS g N s L k)).map (Value.int .i64)))∧Hid (KeptB W3 wr (fun j=>j=bl))∧Hid (Below W1.heap.size W1 wr)) (fun i _=>g.es.length-(intOf i).toNat);case atStart=>exact⟨0,Nat.zero_le _,rfl,HO3,kept_refl _ _,HB3⟩
 case round=>
  clear HO3 HB3 g3;obtain⟨k,hk,rfl,HO,HK',HB⟩:=hrel;obtain⟨Wr,rfl⟩:∃W:World,W=wr:=⟨_,rfl⟩;have hsz:=HK'.out.1;by_cases hlt:k<g.es.length
  ·obtain⟨b',off',rfl,hb',hcc⟩:=HCE3.out.edge (by omega)
   obtain⟨c1',c2',c3'⟩:=hcc k hlt;have hbo:=hbold.out b' off' rfl (by intro h;rw[h]at hlt;simp at hlt);have hbn:b'≠bl:=by omega
   have c1:=(HK'.out.cell b' _ hb' hbn).trans c1';have c2:=(HK'.out.cell b' _ hb' hbn).trans c2';have c3:=(HK'.out.cell b' _ hb' hbn).trans c3';obtain⟨m1,m2,m3,m4,m5⟩:=hEM.out k hlt;have HST:Hid (∀ u,movS g N s L (k+1) u=movS g N s L k u+sumTo (fun v=>s v*fE v u (g.es[k]?.getD default)) N):=fun u=>movS_step g N s L k u hlt;have hmb:=hid (fun u hu=>movS_bd HK.out N s HSb.out L u (HLb.out u hu) hN2 k hk);have hlt':(k:Int)<(g.es.length:Int):=by omega
   have hk0:(0:Int)≤(k:Int):=by omega
   clear hcc c1' c2' c3';generalize g.es[k]?.getD default=x at*
   obtain⟨xa,xb,xm⟩:=x;dsimp only at c1 c2 c3 m1 m2 m3 m4 m5;obtain⟨A,rfl⟩:=Int.eq_ofNat_of_zero_le m1;obtain⟨B,rfl⟩:=Int.eq_ofNat_of_zero_le (show 0≤xb by omega);obtain⟨m,rfl⟩:=Int.eq_ofNat_of_zero_le (show 0≤xm by omega);have kA:Below Wr.heap.size Wr (Wr.alloc (.cells #[.int .i64 A,.int .i64 B,.int .i64 m] 150)):=(Below.refl _ _).alloc (Nat.le_refl _) _;have KA:=hid kA;have hbl2:bl<Wr.heap.size:=(owns_lt HO.out).2
   have hal:=hid (f_alongS N A B m (by omega) (by omega) (by omega) s HSb.out (movS g N s L k) (fun u hu=>by have:=hmb.out u hu;omega) W1.heap.size (w.heap.size+1) W2.heap.size bl cl bz zo cz _
    ((kA.cell (p:=⟨w.heap.size+1,0,none⟩) (by dsimp only;omega)).trans ((HK'.out.cell (w.heap.size+1) 0 (by omega) (by omega)).trans HG3.out))
    ((kA.cell (p:=⟨W2.heap.size,0,none⟩) (by dsimp only;omega)).trans ((HK'.out.cell W2.heap.size 0 (by omega) (by omega)).trans HO0.out))
    (fun u hu=>(kA.cell (p:=⟨bz,zo+u,none⟩) (by dsimp only;omega)).trans ((HK'.out.cell bz (zo+u) (by omega) (by omega)).trans (HZ3.out u hu)))
    (HO.out.alloc _) (by omega) (by omega) (by omega) (by simp;omega) (by simp;omega) (by simp;omega) (by simp;have:=HB.out.size;omega))
   clear hmb kA;go_wp2_with fail;refine hal.out.mono ?_;rintro e W5 ⟨rfl,hO5,hK5,hB5⟩;have HO5:Hid (W5.ownsRow W1.heap.size 3 1 (.slice (some ⟨bl,0,none⟩) N cl) N ((vecOf N (movS g N s L (k+1))).map (Value.int .i64))):=by
    rw[vecOf_congr N (movS g N s L (k+1)) _ (fun u _=>(HST.out u).trans (by rw[sum_fE s A B m u N (by omega) (by omega)]))];exact hO5
   have HK5:=hid (kept_trans (kept_trans HK'.out (kept_below (p:=fun _=>False) KA.out) (fun _ h=>h.elim)) hK5 (fun _ h=>h));have HB5:=hid ((HB.out.alloc HB.out.size (.cells #[.int .i64 A,.int .i64 B,.int .i64 m] 150)).trans hB5);clear hO5 hK5 hB5 hal HST c1 c2 c3;go_simp;go_wp2_with fail;go_roundw;case rel=>exact⟨k+1,by omega,by go_num,HO5,HK5,HB5⟩
   case measure=>simp[intOf];omega
  ·have e:k=g.es.length:=by omega
   subst e;have hlt':¬(g.es.length:Int)<(g.es.length:Int):=by omega
   have o1:=(HK'.out.cell W2.heap.size 0 (by omega) (by omega)).trans HO0.out;have HOE:Hid (Wr.ownsRow w.heap.size 3 1 (.slice (some ⟨bl,0,none⟩) N cl) N ((vecOf N (movedV g L s)).map (Value.int .i64))):=by
    have h:=HO.out;rw[vecOf_congr N _ (movedV g L s) (fun u hu=>movS_end HK.out N (by omega) s L u hu)]at h;exact owns_base h (by omega)
   have HBE:=hid (up HB1.out HB.out);clear HO HK' HB;go_wp2;go_ret;exact⟨bl,cl,rfl,HOE.out,HBE.out⟩
theorem f_CheckS (g:G)(gv:Value)(hk:Gok g)(ds:List Int)(dv:Value)(w:World)(hg:GrR w gv g)(hd:IntsR w dv ds)(he:dErr ds g.n=0):
 Calls Tryz.prog 195 #[gv,dv] w fun e w'=>e= .returned (.int .i64 0)∧Below w.heap.size w w':=by
 have hg':=hg;obtain⟨ev,rfl,_⟩:=hg';have hd':=hd;obtain⟨da,dc,rfl,_⟩:=hd';have kA:Below w.heap.size w (w.alloc (.cells #[.int .i64 g.n,ev] 28)):=(Below.refl _ _).alloc (Nat.le_refl _) _;have hC:=hid (f_given g _ hk ds _ _ (hg.below kA) (hd.below kA) he);have HA:=hid kA;clear hg hd he hk kA;go_enter Tryz.func195,Tryz.ntmps195;go_wp2_with fail;refine hC.out.mono ?_;rintro e w2 ⟨rfl,hB2⟩;dsimp only;go_wp2_with fail;go_ret;exact⟨rfl,up HA.out hB2⟩
theorem f_bounded1E (k:Int)(w:World):Calls Tryz.prog 257 #[.int .i64 k] w fun e w'=>e= .returned (.bool (!inB k))∧w=w':=by
 have HI:Hid (inB k=(decide (-1048576≤k)&&decide (k≤1048576))):=rfl;by_cases h1:k< -1048576
 ·have e:inB k=false:=by rw[HI.out,decide_eq_false (by omega)];rfl
  rw[e];have d1:decide (k< -1048576)=true:=by simpa using h1
  clear h1;go_enter Tryz.func257,Tryz.ntmps257;go_wp2;go_ret;exact⟨rfl,rfl⟩
 ·by_cases h2:1048576<k
  ·have e:inB k=false:=by rw[HI.out,decide_eq_false (by omega:¬k≤1048576)];simp
   rw[e];have d1:decide (k< -1048576)=false:=by simpa using h1
   have d2:decide (1048576<k)=true:=by simpa using h2
   clear h1 h2;go_enter Tryz.func257,Tryz.ntmps257;go_wp2;go_ret;exact⟨rfl,rfl⟩
  ·have e:inB k=true:=by rw[HI.out,decide_eq_true (by omega),decide_eq_true (by omega)];rfl
   rw[e];have d1:decide (k< -1048576)=false:=by simpa using h1
   have d2:decide (1048576<k)=false:=by simpa using h2
   clear h1 h2;go_enter Tryz.func257,Tryz.ntmps257;go_wp2;go_ret;exact⟨rfl,rfl⟩
theorem f_boundedIE (ds:List Int)(dv:Value)(w:World)(hd:IntsR w dv ds):
 Calls Tryz.prog 321 #[dv,.func (.func 257) #[] #[]] w fun e w'=>∃j:Int,e= .returned (.int .i64 j)∧decide (0≤j)= !(ds.all inB)∧w=w':=by
 obtain⟨a,cap,rfl,hcap,hcm,hlen,hc⟩:=hd;have HA:Hid (∀ (k:Nat),k<ds.length→inB (ds[k]?.getD 0)=false→ds.all inB=false):=fun k hk h=>by
  rw[List.all_eq_false];refine⟨ds[k],List.getElem_mem hk,?_⟩;rw[List.getElem?_eq_getElem hk,Option.getD_some]at h;simp[h]
 have HT:Hid ((∀ k,k<ds.length→inB (ds[k]?.getD 0)=true)→ds.all inB=true):=fun h=>by
  rw[List.all_eq_true];intro x hx;obtain⟨k,hk,rfl⟩:=List.getElem_of_mem hx;have:=h k hk;rwa[List.getElem?_eq_getElem hk,Option.getD_some]at this
 generalize ds.all inB=al at*
 go_enter Tryz.func321,Tryz.ntmps321;go_wp2;go_loop [8] (fun i=>∃k:Nat,k≤ds.length∧i= .int .i64 k∧Hid (∀ j,j<k→inB (ds[j]?.getD 0)=true)) (fun i=>ds.length-(intOf i).toNat);case atStart=>exact⟨0,Nat.zero_le _,rfl,fun j hj=>by omega⟩
 case round=>
  obtain⟨k,hkn,rfl,HP⟩:=hrel;by_cases hlt:k<ds.length
  ·have hlt':(k:Int)<(ds.length:Int):=by omega
   have hk0:(0:Int)≤(k:Int):=by omega
   obtain⟨b,off,rfl,hb,hcc⟩:=hc.int (by omega);have c1:=hcc k hlt;have hR:=hid (f_bounded1E (ds[k]?.getD 0) w);have HNE:=hid (HA.out k hlt);have HEQ:Hid (inB (ds[k]?.getD 0)=true→∀j,j<k+1→inB (ds[j]?.getD 0)=true):=fun h j hj=>by
    by_cases e:j=k
    ·subst e;exact h
    ·exact HP.out j (by omega)
   clear hcc hc;generalize ds[k]?.getD 0=x at*
   cases hi:inB x with
   |true=>
    rw[hi]at hR
    go_wp2_with (go_at_call 257;refine hR.out.mono ?_;rintro e w1 ⟨rfl,rfl⟩)
    go_round
    case rel=>exact⟨k+1,by omega,by go_num,hid (HEQ.out hi)⟩
    case measure=>simp[intOf];omega
   |false=>
    rw[hi]at hR
    have hal:=HNE.out hi
    clear HNE HEQ HA HT
    go_wp2_with (go_at_call 257;refine hR.out.mono ?_;rintro e w1 ⟨rfl,rfl⟩)
    go_ret
    exact⟨_,rfl,by first|(rw [hal];simp;done)|omega|(simp;omega),rfl⟩
  ·have hlt':¬(k:Int)<(ds.length:Int):=by omega
   have hal:=HT.out fun j hj=>HP.out j (by omega);go_wp2;go_ret;exact⟨_,rfl,by first|decide|(rw [hal];rfl)|omega,rfl⟩
theorem f_boundedCE (ds:List Int)(dv:Value)(w:World)(hd:IntsR w dv ds):
 Calls Tryz.prog 256 #[dv,.func (.func 257) #[] #[]] w fun e w'=>e= .returned (.bool (!(ds.all inB)))∧w=w':=by
 have hI:=hid (f_boundedIE ds dv w hd);clear hd;generalize ds.all inB=al at*
 go_enter Tryz.func256,Tryz.ntmps256;go_wp2_with (go_at_call 321;refine hI.out.mono ?_;rintro e w1 ⟨j,rfl,hj,rfl⟩);go_ret;exact⟨by rw[← hj];rfl,rfl⟩
theorem f_boundedE (ds:List Int)(dv:Value)(w:World)(hd:IntsR w dv ds):
 Calls Tryz.prog 196 #[dv] w fun e w'=>e= .returned (if ds.all inB=true then .tuple #[dv,.int .i64 0]else .tuple #[.slice none 0 0,.int .i64 11])∧w=w':=by
 have hC:=hid (f_boundedCE ds dv w hd);clear hd;generalize ds.all inB=al at*
 have hmf:∀(fn:Fn) (first cap:Array Value) (w:World),(Instr.makeFunc fn first cap).run Tryz.prog w= .ok (.func fn first cap) w:=fun _ _ _ _=>rfl;cases al with
 |true=>
  go_enter Tryz.func196,Tryz.ntmps196
  go_wp2_with (go_at_call 256;refine hC.out.mono ?_;rintro e w1 ⟨rfl,rfl⟩)
  go_ret2
  exact⟨rfl,rfl⟩
 |false=>
  go_enter Tryz.func196,Tryz.ntmps196
  go_wp2_with (go_at_call 256;refine hC.out.mono ?_;rintro e w1 ⟨rfl,rfl⟩)
  go_ret2
  exact⟨rfl,rfl⟩
theorem f_ApplyB (g:G)(gv:Value)(hk:Gok g)(ds ss:List Int)(dv sv:Value)(w:World)(hg:GrR w gv g)(hd:IntsR w dv ds)(hs:IntsR w sv ss)(he:dErr ds g.n=0)(hes:dErr ss g.n=0):
 Calls Tryz.prog 144 #[gv,dv,sv] w (RetTwo (if bddB g.n.toNat (movedV g (dOf ds) (dOf ss))=true then(0,vecOf g.n.toNat (movedV g (dOf ds) (dOf ss)))else(11,[])) w):=by
 have hn:=hk.n;have hde:=dErr_ok he;have hse:=dErr_ok hes;have hg':=hg;obtain⟨ev,rfl,_⟩:=hg';have hd':=hd;obtain⟨da,dc,rfl,_⟩:=hd';have hs':=hs;obtain⟨sa,sc,rfl,_,_,_,hsc⟩:=hs';obtain⟨bz,zo,rfl,hbz,hz⟩:=hsc.int (by omega);have kA:Below w.heap.size w (w.alloc (.cells #[.int .i64 g.n,ev] 28)):=(Below.refl _ _).alloc (Nat.le_refl _) _;obtain⟨W1,hW1⟩:∃W:World,W=w.alloc (.cells #[.int .i64 g.n,ev] 28):=⟨_,rfl⟩;have HX:=hid (Blk.new w #[.int .i64 g.n,ev] 28);rw[← hW1]at HX kA;have HA:=hid kA;have HG:=hid (hg.below kA);have HD:=hid (hd.below kA);have HS:=hid (hs.below kA);have HZ:=hid (fun (W':World) (h:Below W1.heap.size W1 W') u (hu:u<ss.length)=>((up kA h).cell (p:=⟨bz,zo+u,none⟩) hbz).trans (hz u hu))
 have HBZ:=hid hbz;have hGV:=hid (f_given g _ hk ds _ W1 HG.out HD.out he);have hCK:=hid (fun w' (h:Below W1.heap.size W1 w')=>f_CheckS g _ hk ss _ w' (HG.out.below h) (HS.out.below h) hes);have hvd:vecOf g.n.toNat (dOf ds)=ds:=by
  apply List.ext_getElem
  ·rw[vecOf_len];omega
  ·intro i h1 h2
   simp[vecOf,dOf,h2]
 have hMV:=hid (fun w' (h:Below W1.heap.size W1 w')=>f_movedS g _ g.n.toNat (by omega) (by omega) hk (dOf ss) (fun u hu=>by
  have:=hse.2.2.2 _ (List.getElem_mem (show u<ss.length by omega));unfold dOf;rw[List.getElem?_eq_getElem (by omega),Option.getD_some];exact this) (dOf ds) (fun u hu=>by
  have:=hde.2.2.2 _ (List.getElem_mem (show u<ds.length by omega));unfold dOf;rw[List.getElem?_eq_getElem (by omega),Option.getD_some];omega) _ bz zo sc w' (HG.out.below h) (by rw[hvd];exact HD.out.below h) (fun u hu=>HZ.out w' h u (by omega)) (Nat.lt_of_lt_of_le hbz (up kA h).size))
 have HBD:Hid (bddB g.n.toNat (movedV g (dOf ds) (dOf ss))=(vecOf g.n.toNat (movedV g (dOf ds) (dOf ss))).all inB):=rfl;have hsl:ss.length=g.n.toNat:=by omega
 have HN:Hid (g.n.toNat≤12):=by show _≤_;omega
 rw[hsl]at hCK⊢;generalize hgn:g.n.toNat=N at*
 generalize movedV g (dOf ds) (dOf ss)=M at*
 have c0:W1.cell? ⟨w.heap.size,0,none⟩=some (.int .i64 g.n):=(HX.out.cell 0).trans rfl;have c1:W1.cell? ⟨w.heap.size,1,none⟩=some ev:=(HX.out.cell 1).trans rfl;have cl:=HX.out.lt;generalize bddB N M=bd at*
 obtain⟨Z,HZZ⟩:∃Z,Hid (Z=if bd=true then((0:Int),vecOf N M)else(11,[])):=⟨_,rfl⟩;rw[← HZZ.out];clear hg hd hs he hes hz hsc kA hde hse hvd hn hk hbz hsl hgn;go_enter Tryz.func144,Tryz.ntmps144;go_upto_region 1 with fail;rw[← hW1];clear hW1;go_wp2_with fail;refine hGV.out.mono ?_;rintro e w1 ⟨rfl,hB1⟩;have HB1:=hid hB1;clear hB1 c0 c1 cl hGV;have HX1:=hid (HX.out.below HB1.out);have c0:w1.cell? ⟨w.heap.size,0,none⟩=some (.int .i64 g.n):=(HX1.out.cell 0).trans rfl;have c1:w1.cell? ⟨w.heap.size,1,none⟩=some ev:=(HX1.out.cell 1).trans rfl;have cl:=HX1.out.lt;dsimp only;go_wp2_with fail;refine(hCK.out _ HB1.out).mono ?_
 rintro e w2 ⟨rfl,hB2⟩;have HB2:=hid (up HB1.out hB2);clear hB2 c0 c1 cl hCK HX1 HB1;have HX1:=hid (HX.out.below HB2.out);have c0:w2.cell? ⟨w.heap.size,0,none⟩=some (.int .i64 g.n):=(HX1.out.cell 0).trans rfl;have c1:w2.cell? ⟨w.heap.size,1,none⟩=some ev:=(HX1.out.cell 1).trans rfl;have cl:=HX1.out.lt;dsimp only;go_wp2_with fail;refine(hMV.out _ HB2.out).mono ?_;rintro e w3 ⟨b,c,rfl,hown,hB3⟩;have HI3:=hid (owns_intsN hown (vecOf_len _ _) (by have:=HN.out;omega));have HO3:=hid (owns_base hown (show w.heap.size≤w2.heap.size from(up HA.out HB2.out).size));have HB3:=hid (up HA.out (up HB2.out hB3))
 clear hown hB3 hMV HX1 c0 c1 cl;dsimp only;go_wp2_with fail;have hbn:=f_boundedE _ _ w3 HI3.out;rw[← HBD.out]at hbn;have HBN:=hid hbn;clear hbn;cases bd with
 |true=>
  refine HBN.out.mono ?_
  rintro e w4 ⟨rfl,rfl⟩
  dsimp only
  go_wp2_with fail
  go_ret2
  have e:Z=(0,vecOf N M):=by have h:=HZZ.out;simpa using h
  rw[e]
  exact⟨_,rfl,fun _=>HI3.out,HB3.out⟩
 |false=>
  refine HBN.out.mono ?_
  rintro e w4 ⟨rfl,rfl⟩
  dsimp only
  go_wp2_with fail
  go_ret2
  have e:Z=(11,[]):=by have h:=HZZ.out;simpa using h
  rw[e]
  exact⟨_,rfl,fun h=>(by cases h),HB3.out⟩
theorem f_givenE (g:G)(gv:Value)(ds:List Int)(dv:Value)(w:World)(hg:GrR w gv g)(hd:IntsR w dv ds):
 Calls Tryz.prog 194 #[gv,dv] w fun e w'=>e= .returned (.int .i64 (if checkErr g≠0 then checkErr g else dErr ds g.n))∧Below w.heap.size w w':=by
 have hg':=hg;obtain⟨ev,rfl,_⟩:=hg';obtain⟨W1,hW1⟩:∃W:World,W=w.alloc (.cells #[.int .i64 g.n,ev] 28):=⟨_,rfl⟩;have kA:Below w.heap.size w W1:=by rw[hW1];exact(Below.refl _ _).alloc (Nat.le_refl _) _
 have hC:=hid (p_Check g _ _ (hg.below kA));have HK:=hid kA;have hgn:W1.cell? ⟨w.heap.size,0,none⟩=some (.int .i64 g.n):=by rw[hW1];simp
 have hsz:w.heap.size<W1.heap.size:=by rw[hW1];simp
 have hD:=hid (fun w2 (hB:Below W1.heap.size W1 w2)=>p_chips ds dv g.n w2 ((hd.below kA).below hB));obtain⟨Z,HZ⟩:∃Z,Hid (Z=if checkErr g≠0 then checkErr g else dErr ds g.n):=⟨_,rfl⟩;rw[← HZ.out];generalize checkErr g=ce at*
 generalize dErr ds g.n=de at*
 clear kA hg hd;by_cases h0:ce=0
 case neg=>
  have hb:(ce !=0)=true:=by simpa using h0
  have hz:=HZ.out;rw[if_pos h0]at hz;have HZ2:=hid hz;clear hz HZ h0;go_enter Tryz.func194,Tryz.ntmps194;go_wp2_with fail;rw[← hW1];clear hW1;refine hC.out.mono ?_;rintro e w2 ⟨rfl,hB2⟩;have HB2:=hid (up HK.out hB2);clear hC HK hgn hsz hB2 hD;go_simp;go_wp2_with fail;go_ret;exact⟨ret_int HZ2.out.symm,HB2.out⟩
 have hz:=HZ.out;rw[if_neg (by simpa using h0)]at hz;have HZ2:=hid hz;clear hz HZ;subst h0;go_enter Tryz.func194,Tryz.ntmps194;go_wp2_with fail;rw[← hW1];clear hW1;refine hC.out.mono ?_;rintro e w2 ⟨rfl,hB2⟩;have cg:=(hB2.cell (p:=⟨w.heap.size,0,none⟩) hsz).trans hgn;have HB2:=hid (up HK.out hB2);have hD2:=hid (hD.out w2 hB2);clear hC HK hgn hsz hB2 hD;go_simp;go_wp2_with fail;refine hD2.out.mono ?_;rintro e w3 ⟨rfl,rfl⟩;go_simp;go_wp2_with fail;go_ret;exact⟨ret_int HZ2.out.symm,HB2.out⟩
theorem f_CheckE (g:G)(gv:Value)(ds:List Int)(dv:Value)(w:World)(hg:GrR w gv g)(hd:IntsR w dv ds):
 Calls Tryz.prog 195 #[gv,dv] w fun e w'=>e= .returned (.int .i64 (if checkErr g≠0 then checkErr g else dErr ds g.n))∧Below w.heap.size w w':=by
 obtain⟨ev,rfl,_⟩:=id hg;obtain⟨da,dc,rfl,_⟩:=id hd;have kA:Below w.heap.size w (w.alloc (.cells #[.int .i64 g.n,ev] 28)):=(Below.refl _ _).alloc (Nat.le_refl _) _;have hC:=hid (f_givenE g _ ds _ _ (hg.below kA) (hd.below kA));have HA:=hid kA;clear hg hd kA;generalize (if checkErr g≠0 then checkErr g else dErr ds g.n)=z at*
 go_enter Tryz.func195,Tryz.ntmps195;go_wp2_with fail;refine hC.out.mono ?_;rintro e w2 ⟨rfl,hB2⟩;dsimp only;go_wp2_with fail;go_ret;exact⟨rfl,up HA.out hB2⟩
def apP (g:G)(d s:List Int):Int×List Int:=
 if (if checkErr g≠0 then checkErr g else dErr d g.n)≠0 then(if checkErr g≠0 then checkErr g else dErr d g.n,[])
 else if (if checkErr g≠0 then checkErr g else dErr s g.n)≠0 then(if checkErr g≠0 then checkErr g else dErr s g.n,[])
 else if bddB g.n.toNat (movedV g (dOf d) (dOf s))=true then(0,vecOf g.n.toNat (movedV g (dOf d) (dOf s)))else(11,[])
theorem c_Apply (g:G)(gv:Value)(d s:List Int)(dv sv:Value)(w:World)(hg:GrR w gv g)(hd:IntsR w dv d)(hs:IntsR w sv s):
 Calls Tryz.prog 144 #[gv,dv,sv] w (RetTwo (apP g d s) w):=by
 by_cases h1:(if checkErr g≠0 then checkErr g else dErr d g.n)=0
 case neg=>
  have e:apP g d s=(if checkErr g≠0 then checkErr g else dErr d g.n,[]):=by unfold apP;rw[if_pos h1]
  rw[e];obtain⟨ev,rfl,_⟩:=id hg;have kA:Below w.heap.size w (w.alloc (.cells #[.int .i64 g.n,ev] 28)):=(Below.refl _ _).alloc (Nat.le_refl _) _;have hC:=hid (f_givenE g _ d _ _ (hg.below kA) (hd.below kA));have HA:=hid kA;clear hg hd hs kA e;generalize (if checkErr g≠0 then checkErr g else dErr d g.n)=z at*
  have hb:(z !=0)=true:=by simpa using h1
  have H1:=hid h1;clear h1;go_enter Tryz.func144,Tryz.ntmps144;go_wp2_with fail;refine hC.out.mono ?_;rintro e w2 ⟨rfl,hB2⟩;have HB2:=hid (up HA.out hB2);clear hB2;dsimp only;go_wp2_with fail;go_ret2;exact⟨_,rfl,fun h=>absurd h H1.out,HB2.out⟩
 by_cases h2:(if checkErr g≠0 then checkErr g else dErr s g.n)=0
 case neg=>
  have e:apP g d s=(if checkErr g≠0 then checkErr g else dErr s g.n,[]):=by unfold apP;rw[if_neg (by simpa using h1),if_pos h2]
  rw[e];obtain⟨ev,rfl,_⟩:=id hg;have kA:Below w.heap.size w (w.alloc (.cells #[.int .i64 g.n,ev] 28)):=(Below.refl _ _).alloc (Nat.le_refl _) _;have hC:=hid (f_givenE g _ d _ _ (hg.below kA) (hd.below kA));have hK:=hid (fun W (h:Below w.heap.size w W)=>f_CheckE g _ s _ W (hg.below h) (hs.below h));have HX:=hid (Blk.new w #[.int .i64 g.n,ev] 28);have HA:=hid kA;rw[h1]at hC;clear hg hd hs kA e h1;generalize (if checkErr g≠0 then checkErr g else dErr s g.n)=z at*
  have hb:(z !=0)=true:=by simpa using h2
  have H2:=hid h2;clear h2;go_enter Tryz.func144,Tryz.ntmps144;go_upto_region 1 with fail;generalize w.alloc (.cells #[.int .i64 g.n,ev] 28)=W1 at*
  have c0:W1.cell? ⟨w.heap.size,0,none⟩=some (.int .i64 g.n):=(HX.out.cell 0).trans rfl;have c1:W1.cell? ⟨w.heap.size,1,none⟩=some ev:=(HX.out.cell 1).trans rfl;have cl:=HX.out.lt;go_wp2_with fail;refine hC.out.mono ?_;rintro e w2 ⟨rfl,hB2⟩;have HB2:=hid (up HA.out hB2);have HX2:=hid (HX.out.below hB2);clear hB2 HA HX hC c0 c1 cl;have c0:w2.cell? ⟨w.heap.size,0,none⟩=some (.int .i64 g.n):=(HX2.out.cell 0).trans rfl;have c1:w2.cell? ⟨w.heap.size,1,none⟩=some ev:=(HX2.out.cell 1).trans rfl;have cl:=HX2.out.lt;dsimp only;go_wp2_with fail;refine(hK.out _ HB2.out).mono ?_;rintro e w3 ⟨rfl,hB3⟩;have HB3:=hid (up HB2.out hB3)
  clear hB3 c0 c1 cl;dsimp only;go_wp2_with fail;go_ret2;exact⟨_,rfl,fun h=>absurd h H2.out,HB3.out⟩
 have hk:checkErr g=0:=by
  by_cases h:checkErr g=0
  ·exact h
  ·rw[if_pos h]at h1;exact h1
 have e:apP g d s=if bddB g.n.toNat (movedV g (dOf d) (dOf s))=true then(0,vecOf g.n.toNat (movedV g (dOf d) (dOf s)))else(11,[]):=by
  unfold apP;rw[if_neg (by simpa using h1),if_neg (by simpa using h2)]
 rw[e];rw[if_neg (by simpa using hk)]at h1 h2;exact f_ApplyB g gv hk d s dv sv w hg hd hs h1 h2
def cfA (c:Cmd)(g:G)(d:List Int):Int×List Int:=if c.kind=2 then apP g d c.vals else stab2 g c.q d
def doA (s:Ses)(c:Cmd):Int×Ses:=doP s c (changeP s c (cfA c))
theorem s_DoA (s:Ses)(c:Cmd)(sv cv:Value)(w:World)(hs:SesR w sv s)(hc:CmdR w cv c)(hms:SmSes s)(hmc:SmCmd c)(hk:c.kind=2∨c.kind=3):
 Calls Tryz.prog 16 #[sv,cv] w (RetDo (doA s c) w):=by
 unfold doA;refine s_Do s c sv cv _ _ w hs hc hms hmc (by rcases hk with hk|hk<;>rw[hk]<;>rfl) ent_change fun b W hE hse hre=> ?_;obtain⟨h1,h2,h3⟩:=ses_ok hse;refine s_change s c b (cfA c) W hE (obs_sorted h1) (obs_len h1) (ls_len h2) (fun h W g gv dv vv d hg hd hv=> ?_) (fun h W g gv dv d hg hd=> ?_) (fun h2 h3=>by omega)
 ·unfold cfA
  rw[if_pos h];exact c_Apply g gv d c.vals dv vv W hg hd hv
 ·unfold cfA
  rw[if_neg (by omega)];exact c_Stab g gv c.q d dv W hg hd
end Go.Proofs.YtclgllmipcbagaaGreatDoor
