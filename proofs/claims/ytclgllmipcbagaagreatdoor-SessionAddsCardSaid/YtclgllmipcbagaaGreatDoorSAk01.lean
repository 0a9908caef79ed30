/-
  Parts of the proof: XW3 XW4 XW5
-/
import Derived.Test.YtclgllmipcbagaaGreatDoorSAk00
namespace Go.Proofs.YtclgllmipcbagaaGreatDoor
set_option linter.unusedVariables false
set_option linter.unusedSimpArgs false
set_option maxRecDepth 100000
set_option maxHeartbeats 16000000
theorem mv_neg (g:G)(s:Nat→Int)(v u:Nat):mv g (fun w=> -s w) v u= -mv g s v u:=by
 unfold mv;by_cases h:v≠u
 ·rw[if_pos h,if_pos h,show -s u- -s v= -(s u-s v) by omega,Int.mul_neg]
 ·rw[if_neg h,if_neg h];rfl
theorem sumTo_negW (f:Nat→Int):∀n,sumTo (fun k=> -f k) n= -sumTo f n
 |0=>rfl
 |n+1=>by
  show sumTo (fun k=> -f k) n+ -f n= -(sumTo f n+f n);rw[sumTo_negW f n];omega
theorem dOf_neg (s:List Int):dOf (s.map fun k=> -k)=fun w=> -dOf s w:=by
 funext w;unfold dOf;rw[List.getElem?_map];cases s[w]? <;>simp
theorem dOf_vecW (N:Nat)(L:Nat→Int)(u:Nat)(hu:u<N):dOf (vecOf N L) u=L u:=vecOf_get _ _ _ hu
theorem vec_dOf {d:List Int}{N:Nat}(h:d.length=N):vecOf N (dOf d)=d:=by
 apply List.ext_getElem
 ·rw[vecOf_len,h]
 ·intro i h1 h2
  simp[vecOf,dOf,h2]
theorem dErr_mkW {N:Nat}{L:Nat→Int}{n:Int}(hn:n=N)(hN:0<N∧N≤12)(h:∀u,u<N→ -1048576≤L u∧L u≤1048576):dErr (vecOf N L) n=0:=by
 subst hn;unfold dErr;rw[vecOf_len,if_neg (by omega),if_neg (by simp),if_pos];refine List.all_eq_true.2 fun k hk=> ?_;unfold vecOf at hk;obtain⟨u,hu,rfl⟩:=List.mem_map.1 hk;have:=h u (List.mem_range.1 hu);unfold inB;simp;omega
theorem dErr_neg {s:List Int}{n:Int}(h:dErr s n=0):dErr (s.map fun k=> -k) n=0:=by
 obtain⟨h1,h2,h3,h4⟩:=dErr_ok h;unfold dErr;rw[List.length_map,if_neg (by omega),if_neg (by omega),if_pos];refine List.all_eq_true.2 fun k hk=> ?_;obtain⟨u,hu,rfl⟩:=List.mem_map.1 hk;have:=h4 u hu;unfold inB;simp;omega
theorem apP_ok {g:G}{d s d':List Int}(h:apP g d s=(0,d')):checkErr g=0∧dErr d g.n=0∧dErr s g.n=0∧d'=vecOf g.n.toNat (movedV g (dOf d) (dOf s))∧bddB g.n.toNat (movedV g (dOf d) (dOf s))=true:=by
 unfold apP at h;by_cases h1:(if checkErr g≠0 then checkErr g else dErr d g.n)=0
 ·rw[if_neg (by simpa using h1)]at h
  by_cases h2:(if checkErr g≠0 then checkErr g else dErr s g.n)=0
  ·rw[if_neg (by simpa using h2)]at h
   have hk:checkErr g=0:=by
    by_cases h:checkErr g=0
    ·exact h
    ·rw[if_pos h]at h1;exact h1
   rw[if_neg (by simpa using hk)]at h1 h2;by_cases h3:bddB g.n.toNat (movedV g (dOf d) (dOf s))=true
   ·rw[if_pos h3]at h
    injection h with _ h
    exact⟨hk,h1,h2,h.symm,h3⟩
   ·rw[if_neg h3]at h
    injection h with h
    cases h
  ·rw[if_pos h2]at h
   injection h with h
   exact absurd h h2
 ·rw[if_pos h1]at h
  injection h with h
  exact absurd h h1
theorem apP_mk {g:G}{d s:List Int}(h1:checkErr g=0)(h2:dErr d g.n=0)(h3:dErr s g.n=0)(h4:bddB g.n.toNat (movedV g (dOf d) (dOf s))=true):apP g d s=(0,vecOf g.n.toNat (movedV g (dOf d) (dOf s))):=by
 unfold apP;rw[h1,h2,h3,if_neg (by simp),if_neg (by simp),if_pos h4]
theorem apP_div {g:G}{d s d':List Int}(h:apP g d s=(0,d')):dErr d' g.n=0:=by
 obtain⟨h1,h2,h3,rfl,h5⟩:=apP_ok h;obtain⟨a1,a2,a3,_⟩:=dErr_ok h2;refine dErr_mkW (by omega) ⟨by omega,by omega⟩ fun u hu=> ?_;have:=List.all_eq_true.1 h5 (movedV g (dOf d) (dOf s) u) (by unfold vecOf;exact List.mem_map.2 ⟨u,List.mem_range.2 hu,rfl⟩);simpa[inB]using this
theorem apP_back {g:G}{d s d':List Int}(h:apP g d s=(0,d')):apP g d' (s.map fun k=> -k)=(0,d):=by
 have hd':=apP_div h;obtain⟨h1,h2,h3,rfl,h5⟩:=apP_ok h;obtain⟨a1,a2,a3,a4⟩:=dErr_ok h2;have hN:d.length=g.n.toNat:=by omega
 have hm:∀v,v<g.n.toNat→movedV g (dOf (vecOf g.n.toNat (movedV g (dOf d) (dOf s)))) (dOf (s.map fun k=> -k)) v=dOf d v:=fun v hv=>by
  rw[dOf_neg];show dOf (vecOf g.n.toNat (movedV g (dOf d) (dOf s))) v+sumTo (mv g (fun w=> -dOf s w) v) g.n.toNat=_;rw[dOf_vecW _ _ _ hv];have e:sumTo (mv g (fun w=> -dOf s w) v) g.n.toNat= -sumTo (mv g (dOf s) v) g.n.toNat:=by
   rw[← sumTo_negW];exact sumTo_congr _ _ _ fun k _=>mv_neg g (dOf s) v k
  rw[e];show dOf d v+sumTo (mv g (dOf s) v) g.n.toNat+_=_;omega
 have hv:vecOf g.n.toNat (movedV g (dOf (vecOf g.n.toNat (movedV g (dOf d) (dOf s)))) (dOf (s.map fun k=> -k)))=d:=by
  rw[vecOf_congr _ _ (dOf d) hm,vec_dOf hN]
 have hb:bddB g.n.toNat (movedV g (dOf (vecOf g.n.toNat (movedV g (dOf d) (dOf s)))) (dOf (s.map fun k=> -k)))=true:=by
  unfold bddB;rw[hv];refine List.all_eq_true.2 fun k hk=> ?_;have:=a4 k hk;unfold inB;simp;omega
 have:=apP_mk h1 hd' (dErr_neg h3) hb;rw[hv]at this;exact this
theorem stGo_endQ {g:G}(hg:Gok g)(q N:Nat)(hpos:∀v,v<N→v≠q→0<valence g v):∀f t s r,stGo g q N f t s=some r→waitN g q N r.L=[]∧s.L q≤r.L q
 |0,t,s,r,h=>by
  unfold stGo at h;split at h
  ·rename_i hw
   obtain rfl:=Option.some.inj h;exact⟨hw,Int.le_refl _⟩
  ·cases h
 |f+1,t,s,r,h=>by
  unfold stGo at h;cases hw:waitN g q N s.L with
  |nil=>rw[hw]at h;obtain rfl:=Option.some.inj h;exact⟨hw,Int.le_refl _⟩
  |cons x l=>
   rw[hw]at h
   dsimp only at h
   obtain⟨v,rfl,hv,hq,hle⟩:=wait_head hw
   rw[Int.toNat_natCast]at h
   obtain⟨k1,k2⟩:=div_legal (hpos v hv (by omega)) hle
   generalize s.L v/valence g v=k at*
   by_cases hm:(maxF:Int)<t+k
   ·rw[if_pos hm]at h;cases h
   ·rw[if_neg hm]at h
    obtain⟨a,b⟩:=stGo_endQ hg q N hpos f (t+k) _ r h;refine⟨a,Int.le_trans ?_ b⟩;have hr:=rowsF_bd hg v q;have hkr:0≤k*rowsF g v q:=Int.mul_nonneg (by omega) hr.1;show s.L q≤(if q=v then s.L q-k*valence g v else s.L q)+k*rowsF g v q;rw[if_neg (by omega)];omega
theorem wait_nilW {g:G}{q:Int}{N:Nat}{L:Nat→Int}(h:waitN g q N L=[]){u:Nat}(hu:u<N):isUnst g q L u=false:=by
 cases hb:isUnst g q L u with
 |false=>rfl
 |true=>
  have:(u:Int)∈waitN g q N L:=by
   unfold waitN waitTo;exact List.mem_map.2 ⟨u,List.mem_filter.2 ⟨List.mem_range.2 hu,hb⟩,rfl⟩
  rw[h]at this
  cases this
theorem wait_congrW {g:G}{q:Int}{N:Nat}{L M:Nat→Int}(h:∀u,u<N→L u=M u):waitN g q N L=waitN g q N M:=by
 unfold waitN waitTo;congr 1;apply List.filter_congr;intro u hu;unfold isUnst;rw[h u (List.mem_range.1 hu)]
theorem stab_good {g:G}{q:Nat}{d d':List Int}(h:stab2 g q d=(0,d')):dErr d' g.n=0∧stab2 g q d'=(0,d')∧sumTo (dOf d') g.n.toNat=sumTo (dOf d) g.n.toNat:=by
 unfold stab2 at h;cases hs:stabR g q d with
 |inl k=>
  rw[hs]at h
  injection h with h
  exact absurd h (stab_err hs)
 |inr r=>
  rw[hs]at h
  injection h with _ h
  unfold stabR at hs
  by_cases hc:cfgErr g q d=0
  case neg=>rw[if_pos hc]at hs;cases hs
  rw[if_neg (by simpa using hc)]at hs
  cases hg:stGo g q g.n.toNat (maxF+1) 0 ⟨dOf d,fun _=>0⟩with
  |none=>rw[hg]at hs;cases hs
  |some r'=>
   rw[hg]at hs
   dsimp only at hs
   rw[Int.toNat_natCast]at hs
   by_cases hl:1048576<r'.L q
   ·rw[if_pos hl]at hs;cases hs
   rw[if_neg hl]at hs
   injection hs with hs
   subst hs
   obtain⟨hk,hq0,hqn,hlen,hrg,hdeb⟩:=cfg_ok hc
   have hn:=hk.n
   have hqN:q<g.n.toNat:=by omega
   have hpos:∀v,v<g.n.toNat→v≠q→0<valence g v:=fun v hv hne=>val_pos hk (cfg_con hc) hqN hv hne
   obtain⟨hw,hlo⟩:=stGo_endQ hk q g.n.toNat hpos _ _ _ _ hg
   have h0:∀u,u<g.n.toNat→u≠q→0≤dOf d u:=fun u hu hne=>hdeb u (by omega) (by omega)
   obtain⟨hsum,hnn⟩:=stGo_sum hk q g.n.toNat rfl hpos _ _ _ _ h0 hg
   have hrange:∀u,u<g.n.toNat→ -1048576≤r'.L u∧r'.L u≤1048576:=fun u hu=>by
    by_cases e:u=q
    ·subst e
     have h1: -1048576≤dOf d u:=by
      have:=hrg (dOf d u) (by unfold dOf;rw[List.getElem?_eq_getElem (by omega)];exact List.getElem_mem (by omega));omega
     have h2:dOf d u≤r'.L u:=hlo;omega
    ·have h1:=hnn u hu e
     have h2:=wait_nilW hw hu;unfold isUnst at h2;rw[decide_eq_true (by omega),Bool.true_and]at h2;have h3:¬valence g u≤r'.L u:=by simpa using h2
     have h4:=(hk.valence_bd (u:Int) g.n.toNat (Nat.le_refl _)).2;have h5:valence g u=sumTo (valTerm g u) g.n.toNat:=rfl;omega
   have hd':dErr d' g.n=0:=by rw[← h];exact dErr_mkW (by omega) ⟨by omega,by omega⟩ hrange
   have hL:∀u,u<g.n.toNat→dOf d' u=r'.L u:=fun u hu=>by rw[← h];exact dOf_vecW _ _ _ hu
   refine⟨hd',?_,?_⟩
   ·have hc':cfgErr g q d'=0:=by
     unfold cfgErr at hc⊢;by_cases h1:rootedErr g q=0
     ·rw[if_neg (by simpa using h1),hd',if_neg (by simp),if_neg]
      intro hany;have key:∀(f:Nat→Bool) (n i:Nat),(∀ u,i≤u→u<i+n→f u=false)→anyFrom f i n=false:=by
       intro f n;induction n with
       |zero=>intro i _;rfl
       |succ n ih=>
        intro i hi
        unfold anyFrom
        rw[hi i (Nat.le_refl _) (by omega)]
        exact ih (i+1) fun u h1 h2=>hi u (by omega) (by omega)
      rw[key _ _ _ fun u _ hu=> ?_]at hany
      ·cases hany
      ·unfold debtAt
       by_cases e:u=q
       ·subst e;simp
       ·have:=hnn u (by omega) e
        have h2:=hL u (by omega);unfold dOf at h2;rw[h2];simp;omega
     ·rw[if_pos h1]at hc;exact absurd hc h1
    have hgo:stGo g q g.n.toNat (maxF+1) 0 ⟨dOf d',fun _=>0⟩=some ⟨dOf d',fun _=>0⟩:=by
     unfold stGo;have:waitN g q g.n.toNat (dOf d')=[]:=by rw[wait_congrW hL];exact hw
     rw[this]
    unfold stab2 stabR;rw[if_neg (by simpa using hc'),hgo];dsimp only;rw[Int.toNat_natCast];have hl2:¬(1048576:Int)<dOf d' q:=by rw[hL q hqN];exact hl
    rw[if_neg hl2];show((0:Int),vecOf g.n.toNat (dOf d'))=_;rw[vec_dOf (by rw[← h,vecOf_len])]
   ·rw[sumTo_congr _ _ _ hL]
    exact hsum
theorem fstE_all {f:Nat→Int}:∀{m k:Nat},(∀ j,k≤j→j<k+m→f j=0)→fstE f k m=0
 |0,_,_=>rfl
 |m+1,k,h=>by
  unfold fstE;rw[if_neg (by simpa using h k (Nat.le_refl _) (by omega))];exact fstE_all fun j h1 h2=>h j (by omega) (by omega)
theorem obs_each {l:List Ob}(h:obsErr l=0):l.length≤32∧∀k,k<l.length→obAt l k=0:=by
 refine⟨obs_len h,fun k hk=> ?_⟩;unfold obsErr at h;rw[if_neg (by have:=obs_len (l:=l) (by unfold obsErr;exact h);omega)]at h;exact fstE_zero h k (Nat.zero_le _) (by omega)
theorem obs_of {l:List Ob}(h1:l.length≤32)(h2:∀k,k<l.length→obAt l k=0):obsErr l=0:=by
 unfold obsErr;rw[if_neg (by omega)];exact fstE_all fun j _ hj=>h2 j (by omega)
theorem ls_each {ls:List (List Ob)}(h:lsErr ls=0):ls.length≤64∧∀x∈ls,obsErr x=0:=by
 refine⟨ls_len h,fun x hx=> ?_⟩;unfold lsErr at h;rw[if_neg (by have:=ls_len (l:=ls) (by unfold lsErr;exact h);omega)]at h;obtain⟨k,hk,rfl⟩:=List.getElem_of_mem hx;have:=fstE_zero h k (Nat.zero_le _) (by omega);rwa[List.getElem?_eq_getElem hk]at this
theorem ls_of {ls:List (List Ob)}(h1:ls.length≤64)(h2:∀x∈ls,obsErr x=0):lsErr ls=0:=by
 unfold lsErr;rw[if_neg (by omega)];refine fstE_all fun j _ hj=> ?_;rw[List.getElem?_eq_getElem (by omega)];exact h2 _ (List.getElem_mem (by omega))
theorem later_ok {ls:List (List Ob)}{x:List Ob}(h:lsErr ls=0)(hx:obsErr x=0):lsErr (laterP ls x)=0:=by
 obtain⟨h1,h2⟩:=ls_each h;unfold laterP;refine ls_of (by simp;omega) fun y hy=> ?_;have:=List.mem_of_mem_drop hy;rcases List.mem_append.1 this with h|h
 ·exact h2 y h
 ·rw[List.mem_singleton.1 h];exact hx
theorem ses_of {s:Ses}(h1:obsErr s.obs=0)(h2:lsErr s.past=0)(h3:lsErr s.fut=0):sesErr s=0:=by
 unfold sesErr;rw[h1,h2,h3];rfl
theorem less_irrW:∀a:List UInt8,Op.bytesLess a a=false
 |[]=>rfl
 |a::xs=>by unfold Op.bytesLess;rw[less_irrW xs];simp
section
variable {l : List Ob} {p : Nat} {y : Ob}
theorem set_at (k:Nat)(hp:p<l.length):(l.set p y)[k]?.getD default=if k=p then y else l[k]?.getD default:=by
 by_cases e:k=p
 ·subst e;rw[if_pos rfl,List.getElem?_set_self hp];rfl
 ·rw[if_neg e,List.getElem?_set_ne (fun h=>e h.symm)]
theorem set_name (hp:p<l.length)(hy:y.name=(l[p]?.getD default).name)(k:Nat):((l.set p y)[k]?.getD default).name=(l[k]?.getD default).name:=by
 rw[set_at k hp];by_cases e:k=p
 ·subst e;rw[if_pos rfl,hy]
 ·rw[if_neg e]
theorem set_on (hp:p<l.length)(hy:y.on=(l[p]?.getD default).on)(k:Nat):((l.set p y)[k]?.getD default).on=(l[k]?.getD default).on:=by
 rw[set_at k hp];by_cases e:k=p
 ·subst e;rw[if_pos rfl,hy]
 ·rw[if_neg e]
theorem pl_names:∀{l m:List Ob},l.length=m.length→(∀ k:Nat,(l[k]?.getD default).name=(m[k]?.getD default).name)→∀n,plN l n=plN m n
 |[],[],_,_,_=>rfl
 |[],_::_,h,_,_=>by simp at h
 |_::_,[],h,_,_=>by simp at h
 |x::l,z::m,h,hk,n=>by
  have h0:x.name=z.name:=hk 0;have ih:=pl_names (l:=l) (m:=m) (by simpa using h) (fun k=>by simpa using hk (k+1)) n;unfold plN at ih⊢;rw[List.takeWhile_cons,List.takeWhile_cons,h0];split
  ·simp only[List.length_cons,ih]
  ·rfl
theorem set_pl (hp:p<l.length)(hy:y.name=(l[p]?.getD default).name)(n:List UInt8):plN (l.set p y) n=plN l n:=pl_names (by simp) (set_name hp hy) n
theorem set_isG (hp:p<l.length)(hy:y.name=(l[p]?.getD default).name)(ho:y.on=(l[p]?.getD default).on)(n:List UInt8):isG (l.set p y) n=isG l n:=by
 unfold isG obOf;rw[set_pl hp hy,set_on hp ho,List.length_set]
theorem set_isD (hp:p<l.length)(hy:y.name=(l[p]?.getD default).name)(ho:y.on=(l[p]?.getD default).on)(n:List UInt8):isD (l.set p y) n=isD l n:=by
 unfold isD obOf;rw[set_pl hp hy,set_on hp ho,List.length_set]
theorem set_graph (hp:p<l.length)(hy:y.name=(l[p]?.getD default).name)(hn:(l[p]?.getD default).on≠[]){n:List UInt8}(hg:isG l n=true):obOf (l.set p y) n=obOf l n:=by
 unfold isG at hg;simp only[Bool.and_eq_true,decide_eq_true_eq]at hg;unfold obOf at hg⊢;rw[set_pl hp hy,set_at _ hp,if_neg (fun e=>hn (by rw[← e];exact hg.2))]
theorem ob_parts {k:Nat}(h:obAt l k=0):wordErr (l[k]?.getD default).name=0∧(decide (0<k)&&leN (l[k]?.getD default).name (l[k-1]?.getD default).name)=false∧obErr l (l[k]?.getD default)=0:=by
 unfold obAt at h;by_cases h1:wordErr (l[k]?.getD default).name=0
 ·rw[if_neg (by simpa using h1)]at h
  cases h2:(decide (0<k)&&leN (l[k]?.getD default).name (l[k-1]?.getD default).name)with
  |true=>rw[h2,if_pos rfl]at h;omega
  |false=>rw[h2,if_neg (by simp)]at h;exact⟨h1,rfl,h⟩
 ·rw[if_pos h1]at h;exact absurd h h1
theorem div_parts {x:Ob}(h:obErr l x=0)(hn:x.on≠[]):isG l x.on=true∧x.g=⟨0,[]⟩∧dErr x.d (obOf l x.on).g.n=0:=by
 unfold obErr at h;rw[if_neg hn]at h;cases h1:isG l x.on with
 |false=>rw[h1,if_pos rfl]at h;omega
 |true=>
  rw[h1,if_neg (by simp)]at h
  cases h2:zeroG x.g with
  |false=>rw[h2,if_pos rfl]at h;omega
  |true=>
   rw[h2,if_neg (by simp)]at h
   refine⟨rfl,?_,h⟩
   unfold zeroG at h2
   simp only[Bool.and_eq_true,decide_eq_true_eq]at h2
   obtain⟨a,b⟩:=h2
   cases hx:x.g with
   |mk n es=>rw[hx]at a b;simp at a b;rw[a,b]
theorem obs_set (h:obsErr l=0)(hp:p<l.length)(hy:y.name=(l[p]?.getD default).name)(ho:y.on=(l[p]?.getD default).on)(hn:(l[p]?.getD default).on≠[])(hg:y.g=⟨0,[]⟩)(hd:dErr y.d (obOf l y.on).g.n=0):obsErr (l.set p y)=0:=by
 obtain⟨h1,h2⟩:=obs_each h;refine obs_of (by rw[List.length_set];exact h1) fun k hk=> ?_;rw[List.length_set]at hk;obtain⟨a1,a2,a3⟩:=ob_parts (h2 k hk);unfold obAt;rw[set_name hp hy,set_name hp hy,a1,a2,if_neg (by simp),if_neg (by simp),set_at k hp];by_cases e:k=p
 ·subst e
  rw[if_pos rfl];obtain⟨b1,b2,b3⟩:=div_parts a3 hn;unfold obErr;rw[if_neg (by rw[ho];exact hn),set_isG hp hy ho,ho,b1,if_neg (by simp),hg,if_neg (by decide),set_graph hp hy hn b1,←ho];exact hd
 ·rw[if_neg e]
  unfold obErr at a3⊢;by_cases c0:(l[k]?.getD default).on=[]
  ·rw[if_pos c0]at a3 ⊢;exact a3
  ·rw[if_neg c0]at a3⊢
   rw[set_isG hp hy ho];cases c1:isG l (l[k]?.getD default).on with
   |false=>rw[c1,if_pos rfl]at a3;omega
   |true=>
    rw[c1,if_neg (by simp)]at a3
    rw[if_neg (by simp),set_graph hp hy hn c1]
    exact a3
end
theorem put_set {l:List Ob}{y:Ob}(hs:SortedN l)(h:plN l y.name<l.length):putOb l y=l.set (plN l y.name) y:=by
 have hp:posN l y.name=plN l y.name:=posN_of (fun k hk=>by have:=hs k _ hk h;rwa[plN_at l _ h]at this) (fun _=>by rw[plN_at l _ h];exact less_irrW _) (Nat.le_of_lt h);unfold putOb foundN;rw[hp,decide_eq_true h,decide_eq_true (plN_at l _ h)];rfl
theorem isD_parts {l:List Ob}{n:List UInt8}(h:isD l n=true):plN l n<l.length∧(obOf l n).on≠[]∧isG l n=false∧divB l n=obOf l n∧(obOf l n).name=n:=by
 have h':=h;unfold isD at h';simp only[Bool.and_eq_true,decide_eq_true_eq,Bool.not_eq_true',decide_eq_false_iff_not]at h';refine⟨h'.1,h'.2,?_,by unfold divB;rw[if_pos h],plN_at l n h'.1⟩;unfold isG;rw[decide_eq_false h'.2,Bool.and_false]
def newOb (s:Ses)(n:List UInt8)(d:List Int):Ob:=⟨n,(obOf s.obs n).on,⟨0,[]⟩,d⟩
def newSes (s:Ses)(n:List UInt8)(d:List Int):Ses:=⟨s.obs.set (plN s.obs n) (newOb s n d),laterP s.past s.obs,[]⟩
theorem doA_step {s:Ses}{c:Cmd}(hs:sesErr s=0)(hr:rightErr c=0)(hD:isD s.obs c.name=true){d':List Int}(hc:cfA c (figB s.obs (obOf s.obs c.name).on).1 (obOf s.obs c.name).d=(0,d')):doA s c=(0,newSes s c.name d'):=by
 obtain⟨h1,h2,h3⟩:=ses_ok hs;obtain⟨p1,p2,p3,p4,p5⟩:=isD_parts hD;have hch:changeP s c (cfA c)=(0,newSes s c.name d'):=by
  unfold changeP;rw[if_neg (by simp[hD]),p4,hc,if_neg (by simp)];unfold holdP;rw[if_neg (by simp[p3])];unfold giveP;have hput:putOb s.obs (newOb s c.name d')=s.obs.set (plN s.obs c.name) (newOb s c.name d'):=put_set (obs_sorted h1) p1;show(if 32<(putOb s.obs (newOb s c.name d')).length then _ else _)=_;rw[hput,List.length_set,if_neg (by have:=obs_len h1;omega)];show((0:Int),becomeP s (putOb s.obs (newOb s c.name d')))=_;rw[hput];rfl
 unfold doA doP;rw[hs,hr,hch,if_neg (by simp),if_neg (by simp),if_neg (by simp)]
theorem doA_inv {s:Ses}{c:Cmd}(h:(doA s c).1=0):sesErr s=0∧rightErr c=0∧isD s.obs c.name=true∧∃d',cfA c (figB s.obs (obOf s.obs c.name).on).1 (obOf s.obs c.name).d=(0,d'):=by
 unfold doA doP at h;by_cases h1:sesErr s=0;case neg=>rw[if_pos h1]at h;exact absurd h h1
 rw[if_neg (by simpa using h1)]at h;by_cases h2:rightErr c=0;case neg=>rw[if_pos h2]at h;exact absurd h h2
 rw[if_neg (by simpa using h2)]at h;by_cases h3:(changeP s c (cfA c)).1=0;case neg=>rw[if_pos h3]at h;exact absurd h h3
 unfold changeP at h3;cases hD:isD s.obs c.name with
 |false=>rw[hD,if_pos rfl]at h3;cases h3
 |true=>
  rw[hD,if_neg (by simp),(isD_parts hD).2.2.2.1]at h3
  refine⟨h1,h2,rfl,(cfA c (figB s.obs (obOf s.obs c.name).on).1 (obOf s.obs c.name).d).2,?_⟩
  by_cases h4:(cfA c (figB s.obs (obOf s.obs c.name).on).1 (obOf s.obs c.name).d).1=0
  ·exact Prod.ext h4 rfl
  ·rw[if_pos h4]at h3;exact absurd h3 h4
theorem new_ok {s:Ses}{n:List UInt8}{d:List Int}(hs:sesErr s=0)(hD:isD s.obs n=true)(hd:dErr d (figB s.obs (obOf s.obs n).on).1.n=0):
 sesErr (newSes s n d)=0∧isD (newSes s n d).obs n=true∧obOf (newSes s n d).obs n=newOb s n d∧(figB (newSes s n d).obs (obOf s.obs n).on).1=(figB s.obs (obOf s.obs n).on).1∧plN (newSes s n d).obs n=plN s.obs n:=by
 obtain⟨h1,h2,h3⟩:=ses_ok hs;obtain⟨p1,p2,p3,p4,p5⟩:=isD_parts hD;obtain⟨_,hk⟩:=obs_each h1;obtain⟨_,_,a3⟩:=ob_parts (hk _ p1);obtain⟨b1,b2,b3⟩:=div_parts a3 p2;have b1:isG s.obs (obOf s.obs n).on=true:=b1;have hy:(newOb s n d).name=(s.obs[plN s.obs n]?.getD default).name:=p5.symm;have ho:(newOb s n d).on=(s.obs[plN s.obs n]?.getD default).on:=rfl;have hf:(figB s.obs (obOf s.obs n).on).1=(obOf s.obs (obOf s.obs n).on).g:=by unfold figB;rw[if_pos b1]
 have hpl:plN (s.obs.set (plN s.obs n) (newOb s n d)) n=plN s.obs n:=set_pl p1 hy n;refine⟨ses_of (obs_set h1 p1 hy ho p2 rfl (by have h:=hd;rw[hf]at h;exact h)) (later_ok h2 h1) (show lsErr []=0 from rfl),(set_isD p1 hy ho n).trans hD,?_,?_,hpl⟩
 ·show(s.obs.set (plN s.obs n) (newOb s n d))[plN (s.obs.set (plN s.obs n) (newOb s n d)) n]?.getD default=_
  rw[hpl,set_at _ p1,if_pos rfl]
 ·rw[hf]
  unfold figB;rw[if_pos (show isG (newSes s n d).obs (obOf s.obs n).on=true from(set_isG p1 hy ho _).trans b1)];show(obOf (s.obs.set (plN s.obs n) (newOb s n d)) (obOf s.obs n).on).g=_;rw[set_graph p1 hy p2 b1]
theorem new_back {s:Ses}{n:List UInt8}{d:List Int}(hs:sesErr s=0)(hD:isD s.obs n=true)(hd:dErr d (figB s.obs (obOf s.obs n).on).1.n=0):(newSes (newSes s n d) n (obOf s.obs n).d).obs=s.obs:=by
 obtain⟨h1,h2,h3⟩:=ses_ok hs;obtain⟨p1,p2,p3,p4,p5⟩:=isD_parts hD;obtain⟨_,hk⟩:=obs_each h1;obtain⟨_,_,a3⟩:=ob_parts (hk _ p1);obtain⟨b1,b2,b3⟩:=div_parts a3 p2;obtain⟨n1,n2,n3,n4,n5⟩:=new_ok hs hD hd;have e:newOb (newSes s n d) n (obOf s.obs n).d=s.obs[plN s.obs n]?.getD default:=by
  unfold newOb;rw[n3];show(⟨n,(obOf s.obs n).on,⟨0,[]⟩,(obOf s.obs n).d⟩:Ob)=obOf s.obs n;have b2:(obOf s.obs n).g=⟨0,[]⟩:=b2;cases hx:obOf s.obs n with
  |mk a b c e=>rw[hx]at b2 p5;simp at b2 p5;rw[b2,p5]
 show((newSes s n d).obs).set (plN (newSes s n d).obs n) (newOb (newSes s n d) n (obOf s.obs n).d)=s.obs;rw[n5,e];show(s.obs.set _ _).set _ _=_;rw[List.set_set,List.getElem?_eq_getElem p1];exact List.set_getElem_self p1
end Go.Proofs.YtclgllmipcbagaaGreatDoor
namespace Go.Proofs.YtclgllmipcbagaaGreatDoor
open Go.RowKit
set_option linter.unusedVariables false
set_option linter.unusedSimpArgs false
set_option maxRecDepth 100000
set_option maxHeartbeats 16000000
def cFire (n:List UInt8)(v:List Int):Cmd:=⟨2,n,[],[],0,⟨0,[]⟩,v⟩
def cStab (n:List UInt8):Cmd:=⟨3,n,[],[],0,⟨0,[]⟩,[]⟩
theorem right_neg {n:List UInt8}{v:List Int}(h:rightErr (cFire n v)=0):rightErr (cFire n (v.map fun k=> -k))=0:=by
 unfold rightErr at h⊢;have hw:wordsErr (cFire n (v.map fun k=> -k))=wordsErr (cFire n v):=rfl;have hs:spare (cFire n (v.map fun k=> -k))=spare (cFire n v):=by simp[spare,cFire,kVals]
 have hk:¬((cFire n v).kind<0∨8<(cFire n v).kind):=by show ¬((2:Int)<0∨(8:Int)<2);omega
 have hk2:¬((cFire n (v.map fun k=> -k)).kind<0∨8<(cFire n (v.map fun k=> -k)).kind):=hk;rw[if_neg hk]at h;rw[if_neg hk2,hw,hs];by_cases h1:wordsErr (cFire n v)=0;case neg=>rw[if_pos h1]at h;exact absurd h h1
 rw[if_neg (by simpa using h1)]at h⊢;by_cases h2:numsErr (cFire n v)=0;case neg=>rw[if_pos h2]at h;exact absurd h h2
 rw[if_neg (by simpa using h2)]at h;have e1:∀u:List Int,numsErr (cFire n u)=if u.length<1∨12<u.length then 8 else dErr u u.length:=fun u=>by
  simp[numsErr,cFire,kAt,kVals]
 rw[e1]at h2;have h3:numsErr (cFire n (v.map fun k=> -k))=0:=by
  rw[e1,List.length_map];by_cases hl:v.length<1∨12<v.length
  ·rw[if_pos hl]at h2;omega
  ·rw[if_neg hl]at h2⊢
   exact dErr_neg h2
 rw[h3,if_neg (by simp)];exact h
theorem cfA_fire (n:List UInt8)(v:List Int)(g:G)(d:List Int):cfA (cFire n v) g d=apP g d v:=by unfold cfA cFire;exact if_pos rfl
theorem cfA_stab (n:List UInt8)(g:G)(d:List Int):cfA (cStab n) g d=stab2 g ((0:Nat):Int) d:=by unfold cfA;rw[if_neg (by show ¬(3:Int)=2;omega)];rfl
theorem adds_fire {s:Ses}{n:List UInt8}{v:List Int}(h:(doA s (cFire n v)).1=0):(doA (doA s (cFire n v)).2 (cFire n (v.map fun k=> -k))).1=0∧(doA (doA s (cFire n v)).2 (cFire n (v.map fun k=> -k))).2.obs=s.obs∧∃d,(doA s (cFire n v)).2=newSes s n d:=by
 obtain⟨hs,hr,hD,d',hc⟩:=doA_inv h;have hD:isD s.obs n=true:=hD;rw[doA_step hs hr hD hc];rw[cfA_fire]at hc;obtain⟨n1,n2,n3,n4,_⟩:=new_ok hs hD (apP_div hc);have e2:doA (newSes s n d') (cFire n (v.map fun k=> -k))=(0,newSes (newSes s n d') n (obOf s.obs n).d):=by
  refine doA_step n1 (right_neg hr) n2 ?_;rw[cfA_fire];show apP (figB (newSes s n d').obs (obOf (newSes s n d').obs n).on).1 (obOf (newSes s n d').obs n).d _=_;rw[n3];show apP (figB (newSes s n d').obs (obOf s.obs n).on).1 d' _=_;rw[n4];exact apP_back hc
 show(doA (newSes s n d') (cFire n (v.map fun k=> -k))).1=0∧(doA (newSes s n d') (cFire n (v.map fun k=> -k))).2.obs=s.obs∧∃d,newSes s n d'=newSes s n d;rw[e2];exact⟨rfl,new_back hs hD (apP_div hc),d',rfl⟩
theorem find_ok {s:Ses}{n:List UInt8}(hs:sesErr s=0)(hD:isD s.obs n=true):findErr s n=0∧findB s n=obOf s.obs n:=by
 have h:=(isD_parts hD).1;have e:findErr s n=0:=by unfold findErr;rw[if_neg (by simpa using hs),if_pos h]
 exact⟨e,by unfold findB;rw[if_pos e]⟩
theorem div_of {s:Ses}{n:List UInt8}(hs:sesErr s=0)(hD:isD s.obs n=true):dErr (obOf s.obs n).d (figB s.obs (obOf s.obs n).on).1.n=0:=by
 obtain⟨p1,p2,p3,p4,p5⟩:=isD_parts hD;obtain⟨_,hk⟩:=obs_each (ses_ok hs).1;obtain⟨_,_,a3⟩:=ob_parts (hk _ p1);obtain⟨b1,b2,b3⟩:=div_parts a3 p2;have b1:isG s.obs (obOf s.obs n).on=true:=b1;unfold figB;rw[if_pos b1];exact b3
theorem adds_stab {s:Ses}{n:List UInt8}(h:(doA s (cStab n)).1=0):∃d:List Int,(doA s (cStab n)).2=newSes s n d∧sesErr (newSes s n d)=0∧(doA (newSes s n d) (cStab n)).1=0∧(doA (newSes s n d) (cStab n)).2.obs=(newSes s n d).obs∧
 findErr (newSes s n d) n=0∧findErr s n=0∧(findB (newSes s n d) n).d=d∧sumTo (dOf d) d.length=sumTo (dOf (findB s n).d) (findB s n).d.length∧(∃ m,dErr d m=0)∧∃m,dErr (findB s n).d m=0:=by
 obtain⟨hs,hr,hD,d',hc⟩:=doA_inv h;have hD:isD s.obs n=true:=hD;rw[doA_step hs hr hD hc];rw[cfA_stab]at hc;obtain⟨g1,g2,g3⟩:=stab_good hc;obtain⟨n1,n2,n3,n4,n5⟩:=new_ok hs hD g1;have hc2:cfA (cStab n) (figB (newSes s n d').obs (obOf (newSes s n d').obs n).on).1 (obOf (newSes s n d').obs n).d=(0,d'):=by
  rw[cfA_stab,n3];show stab2 (figB (newSes s n d').obs (obOf s.obs n).on).1 _ d'=_;rw[n4];exact g2
 have e2:doA (newSes s n d') (cStab n)=(0,newSes (newSes s n d') n d'):=doA_step n1 hr n2 hc2;obtain⟨f1,f2⟩:=find_ok n1 n2;obtain⟨f3,f4⟩:=find_ok hs hD;have hdo:=div_of hs hD;have l1:(d'.length:Int)=(figB s.obs (obOf s.obs n).on).1.n:=(dErr_ok g1).2.2.1;have l2:=(dErr_ok hdo).2.2.1;refine⟨d',rfl,n1,by rw[e2],?_,f1,f3,by rw[f2,n3];rfl,?_,⟨_,g1⟩,by rw[f4];exact⟨_,hdo⟩⟩
 ·rw[e2]
  show((newSes s n d').obs).set (plN (newSes s n d').obs n) (newOb (newSes s n d') n d')=(newSes s n d').obs;have e:newOb (newSes s n d') n d'=newOb s n d':=by unfold newOb;rw[n3];rfl
  rw[n5,e];show(s.obs.set _ _).set _ _=s.obs.set _ _;rw[List.set_set]
 ·rw[f4,show d'.length=(figB s.obs (obOf s.obs n).on).1.n.toNat by omega,show(obOf s.obs n).d.length=(figB s.obs (obOf s.obs n).on).1.n.toNat by omega]
  exact g3
theorem l_objectsR (l:List Ob)(v:Value)(w:World)(hl:ObsR w v l):Calls Tryz.prog 30 #[v] w fun e w'=>∃a cap,e= .returned (.slice a l.length cap)∧ObsR w' (.slice a l.length cap) l∧Below w.heap.size w w':=by
 refine(l_objects l v w w hl (Below.refl _ _)).mono ?_;rintro e w' ⟨v',ys,rfl,hys,ho,hn,hB⟩;obtain⟨av,cv,rfl,h1,h2,hca⟩:=owns_at ho;exact⟨av,cv,rfl,obs_mk ⟨hys.1,fun k hk=>(hys.2 k hk).below hB⟩ hca h1 h2 hn,hB⟩
theorem sum_bdW (f:Nat→Int)(c:Int)(hc:0≤c):∀n:Nat,(∀ k,k<n→ -c≤f k∧f k≤c)→∀m,m≤n→ -(c*m)≤sumTo f m∧sumTo f m≤c*m
 |n,h,0,_=>⟨by simp[sumTo],by simp[sumTo]⟩
 |n,h,m+1,hm=>by
  have h1:=sum_bdW f c hc n h m (by omega);have h2:=h m (by omega);have e:sumTo f (m+1)=sumTo f m+f m:=rfl;have e2:c*((m+1:Nat):Int)=c*m+c:=by rw[Int.natCast_add,Int.mul_add];simp
  omega
theorem ds_bdW {ds:List Int}{n:Int}(h:dErr ds n=0)(m:Nat)(hm:m≤ds.length): -12582912≤sumTo (dOf ds) m∧sumTo (dOf ds) m≤12582912:=by
 obtain⟨h1,h2,h3,h4⟩:=dErr_ok h;have h5:=sum_bdW (dOf ds) 1048576 (by omega) ds.length (fun k hk=>by
  have:=h4 _ (List.getElem_mem hk);unfold dOf;rw[List.getElem?_eq_getElem hk];exact this) m hm
 have:(1048576:Int)*(m:Int)≤1048576*12:=Int.mul_le_mul_of_nonneg_left (by omega) (by omega);omega
theorem r17_TotalW (ds:List Int)(dv:Value)(n:Int)(w:World)(hd:IntsR w dv ds)(he:dErr ds n=0):
 Calls Tryz.prog 32 #[dv] w fun e w'=>e= .returned (.int .i64 (sumTo (dOf ds) ds.length))∧w=w':=by
 obtain⟨a,cap,rfl,hcap,hcm,hlen,hc⟩:=hd;have HB:=hid (fun m hm=>ds_bdW he m hm);obtain⟨h1,h2,h3,_⟩:=dErr_ok he;clear he;go_enter Tryz.func32,Tryz.ntmps32;go_wp2;go_loopw [3,4] (fun s i wr=>∃k:Nat,k≤ds.length∧i= .int .i64 k∧Hid (s= .int .i64 (sumTo (dOf ds) k))∧Hid (w=wr)) (fun _ i _=>ds.length-(intOf i).toNat);case atStart=>exact⟨0,Nat.zero_le _,rfl,rfl,rfl⟩
 case round=>
  obtain⟨k,hk,rfl,HS,HE⟩:=hrel;obtain rfl:=HE.out;obtain rfl:=HS.out;by_cases hlt:k<ds.length
  ·obtain⟨b',off',rfl,hb',hcs⟩:=hc.int (by omega)
   have c1:=hcs k hlt;have hst:sumTo (dOf ds) (k+1)=sumTo (dOf ds) k+ds[k]?.getD 0:=rfl;have hbd:=HB.out (k+1) (by omega);rw[hst]at hbd;have HST:=hid hst;have hlt':(k:Int)<(ds.length:Int):=by omega
   have hk0:(0:Int)≤(k:Int):=by omega
   clear hcs hc hst;generalize ds[k]?.getD 0=x at*
   generalize sumTo (dOf ds) k=s at*
   have wx:IntKind.i64.wrap (s+x)=s+x:=IntWalk.i64_in _ (by omega);go_wp2;go_roundw;case rel=>exact⟨k+1,by omega,by go_num,by show _=_;rw[HST.out],True.intro⟩
   case measure=>simp[intOf];omega
  ·obtain rfl:k=ds.length:=by omega
   have hlt':¬(ds.length:Int)<(ds.length:Int):=by omega
   clear hc;go_wp2;go_ret;exact⟨rfl,rfl⟩
theorem new_sm {s:Ses}{n:List UInt8}{d:List Int}(hm:SmSes s)(hD:isD s.obs n=true):SmSes (newSes s n d):=by
 obtain⟨h1,h2,h3⟩:=hm;obtain⟨p1,p2,p3,p4,p5⟩:=isD_parts hD;refine⟨fun k hk=> ?_,fun k hk=> ?_,fun k hk=>by cases hk⟩
 ·have hk:k<(s.obs.set (plN s.obs n) (newOb s n d)).length:=hk
  rw[List.length_set]at hk;show SmOb ((s.obs.set (plN s.obs n) (newOb s n d))[k]?.getD default);rw[set_at k p1];by_cases e:k=plN s.obs n
  ·rw[if_pos e]
   have:=h1 _ p1;exact⟨by show n.length≤_;rw[← p5];exact this.1,this.2⟩
  ·rw[if_neg e];exact h1 k hk
 ·have hk:k<(laterP s.past s.obs).length:=hk
  show SmObs ((laterP s.past s.obs)[k]?.getD []);have hmem:(laterP s.past s.obs)[k]?.getD []∈s.past++[s.obs]:=by
   rw[List.getElem?_eq_getElem hk];exact List.mem_of_mem_drop (List.getElem_mem hk)
  rcases List.mem_append.1 hmem with h|h
  ·obtain⟨j,hj,e⟩:=List.getElem_of_mem h
   have:=h2 j hj;rw[List.getElem?_eq_getElem hj]at this;rw[← e];exact this
  ·rw[List.mem_singleton.1 h];exact h1
end Go.Proofs.YtclgllmipcbagaaGreatDoor
