/-
  Parts of the proof: XP32
-/
import Derived.Test.YtclgllmipcbagaaGreatDoorBk04
namespace Go.Proofs.YtclgllmipcbagaaGreatDoor
set_option linter.unusedVariables false
set_option linter.unusedSimpArgs false
set_option maxRecDepth 100000
set_option maxHeartbeats 16000000
open Go.RowKit
theorem kept_refl (w:World)(p:Nat→Prop):KeptB w w p:=⟨Nat.le_refl _,fun _ _ _=>rfl⟩
theorem kept_set {w w1:World}{p:Nat→Prop}(h:KeptB w w1 p){b:Nat}(hb:p b)(o:Nat)(v:Value):KeptB w (w1.setCell ⟨b,o,none⟩ v) p:=
 ⟨by simpa using h.1,fun k hk hne=>by rw[Below.heap_setCell _ ⟨b,o,none⟩ _ k (fun e=>hne (by rw[show k=b from e];exact hb))];exact h.2 k hk hne⟩
theorem kept_trans {w w1 w2:World}{p q:Nat→Prop}(h:KeptB w w1 p)(h2:KeptB w1 w2 q)(hq:∀k,q k→p k):KeptB w w2 p:=
 ⟨Nat.le_trans h.1 h2.1,fun k hk hne=>(h2.2 k (by have:=h.1;omega) (fun e=>hne (hq k e))).trans (h.2 k hk hne)⟩
theorem kept_below {w w1:World}{p:Nat→Prop}(h:Below w.heap.size w w1):KeptB w w1 p:=⟨h.size,fun k hk _=>h.block k hk⟩
def kSt (g:G)(v:Nat)(k:Int)(u:Nat)(L:Nat→Int)(j:Nat):Int:=(if j=v then L j-k*valence g v else L j)+if j<u then k*rowsF g v j else 0
theorem kSt_zero (g:G)(v:Nat)(k:Int)(L:Nat→Int)(j:Nat):(if j=v then L v-k*valence g v else L j)=kSt g v k 0 L j:=by
 unfold kSt;by_cases e:j=v
 ·subst e;simp
 ·simp[e]
theorem kSt_succ (g:G)(v:Nat)(k:Int)(u:Nat)(L:Nat→Int)(j:Nat):(if j=u then kSt g v k u L u+k*rowsF g v u else kSt g v k u L j)=kSt g v k (u+1) L j:=by
 unfold kSt;by_cases h:j=u
 ·subst h;simp
 ·rw[if_neg h]
  congr 1;by_cases h2:j<u
  ·rw[if_pos h2,if_pos (by omega)]
  ·rw[if_neg h2,if_neg (by omega)]
theorem kSt_end (g:G)(v:Nat)(k:Int)(N:Nat)(L T:Nat→Int)(j:Nat)(hj:j<N):kSt g v k N L j=(fireK g v k ⟨L,T⟩).L j:=by
 show _=(if j=v then L j-k*valence g v else L j)+k*rowsF g v j;unfold kSt;rw[if_pos hj]
theorem kSt_low (g:G)(v:Nat)(k:Int)(u:Nat)(L T:Nat→Int)(j:Nat)(hj:j<u):kSt g v k u L j=(fireK g v k ⟨L,T⟩).L j:=kSt_end g v k u L T j hj
theorem isUnst_congr (g:G)(q:Int)(L L':Nat→Int)(v:Nat)(h:L v=L' v):isUnst g q L v=isUnst g q L' v:=by unfold isUnst;rw[h]
theorem p_fire (f:PFr)(w:World)(L T:Nat→Int)(tot:Int)(wt:Nat→Bool)(h:PiI f w L T tot wt)(v:Nat)(hv:v<f.N)(k:Int)(hk0:0≤k)(hk1:k≤1000000000)
 (hL:∀u,u<f.N→ -1000000000000≤L u∧L u≤1000000000000) (hT:0≤T v∧T v≤1000000000000) (ht:0≤tot∧tot≤1000000000000):
 Calls Tryz.prog 326 #[.pointer (some ⟨f.b,0,none⟩),.int .i64 v,.int .i64 k] w fun e w'=>e= .returned (.tuple #[])∧
  PiI f w' (fireK f.g v k ⟨L,T⟩).L (fireK f.g v k ⟨L,T⟩).T (tot+k) (fun u=>if u<f.N then isUnst f.g f.q (fireK f.g v k ⟨L,T⟩).L u else wt u)∧KeptB w w' (fun j=>j=f.b∨j=f.bd∨j=f.bf):=by
 obtain⟨p0,p1,p2,p3,p4,p5⟩:=h.cells;obtain⟨hn1,hn2⟩:=h.N12;have c1:=h.leftAt v hv;have c2:=h.valsAt v hv;have fb:=h.left.frozenAt v;have l0:=h.blk.lt;have l1:=(owns_lt h.left).2;have l2:=(owns_lt h.vals).2;have hv0:(0:Int)≤(v:Int):=by omega
 have hv1:(v:Int)<(f.N:Int):=by omega
 have HVB:=hid (val_bd h.gok v);have HRB:=hid (fun u=>rowsF_bd h.gok v u);have HLB:=hid hL;have hkv:0≤k*valence f.g v∧k*valence f.g v≤600000000000:=by
  refine⟨Int.mul_nonneg hk0 HVB.out.1,?_⟩;have:=Int.mul_le_mul hk1 HVB.out.2 HVB.out.1 (by omega);omega
 have hkr:∀u,0≤k*rowsF f.g v u∧k*rowsF f.g v u≤50000000000:=fun u=>by
  refine⟨Int.mul_nonneg hk0 (HRB.out u).1,?_⟩;have:=Int.mul_le_mul hk1 (HRB.out u).2 (HRB.out u).1 (by omega);omega
 have HKR:=hid hkr;have HKV:=hid hkv;have w1:IntKind.i64.wrap (k*valence f.g v)=k*valence f.g v:=IntWalk.i64_in _ (by omega);have w2:IntKind.i64.wrap (L v-k*valence f.g v)=L v-k*valence f.g v:=IntWalk.i64_in _ (by have:=hL v hv;omega)
 have HP0:Hid (PiI f (w.setCell ⟨f.bd,v,none⟩ (.int .i64 (L v-k*valence f.g v))).drew (kSt f.g v k 0 L) T tot (fun j=>if j<0 then isUnst f.g f.q (fireK f.g v k ⟨L,T⟩).L j else wt j)):=
  ((h.setL v _).congr (fun j _=>kSt_zero _ _ _ _ _) (fun _ _=>rfl) (fun j _=>by simp)).drew
 have HK0:Hid (KeptB w (w.setCell ⟨f.bd,v,none⟩ (.int .i64 (L v-k*valence f.g v))).drew (fun j=>j=f.b∨j=f.bd∨j=f.bf)):=kept_trans (kept_set (kept_refl _ _) (.inr (.inl rfl)) _ _) (kept_below (p:=fun _=>False) (Below.drew (Below.refl _ _))) (fun _ h=>h.elim);have HT:=hid hT;have HTT:=hid ht;clear h hL hkv hkr hT ht;obtain⟨b,hbe⟩:∃b,b=f.b:=⟨_,rfl⟩;obtain⟨bd,hde⟩:∃b,b=f.bd:=⟨_,rfl⟩;rw[← hbe]at p0 p1 p2 p3 p4 p5 l0⊢;rw[← hde]at p0 c1 fb l1 HP0 HK0;have HBE:=hid hbe;have HDE:=hid hde;clear hbe hde;go_enter Tryz.func326,Tryz.ntmps326;let S:World→Prop:=fun w'=>w'.cell? ⟨b,0,none⟩=some (.slice (some ⟨bd,0,none⟩) f.N f.cd)∧w'.cell? ⟨b,3,none⟩=some (.slice (some ⟨f.bv,0,none⟩) f.N f.N)∧w'.cell? ⟨bd,v,none⟩=some (.int .i64 (L v))∧w'.cell? ⟨f.bv,v,none⟩=some (.int .i64 (valence f.g v))
 go_wp2;(refine wp_region_text 18 [0,1,2,3,4,5,6,7,8,9,10,11,12,13,14,15,16,17] S (by kernel_rfl) (by kernel_rfl) (by intro _ _ d _ _ h;cases d<;>exact h) ?hS ?_;rotate_left;simp only[xA,xB,xC,xD,xE,xF]);case hS=>exact⟨p0,p3,c1,c2⟩
 (repeat ((refine' wpSeq_take rfl _ (by rfl) ?_ ?_;rotate_left;focus(intro w' hS;(try dsimp only at hS);obtain⟨s1,s2,s3,s4⟩:=hS;go_simp;(first|done|with_reducible rfl));(try go_frame));(try go_frame)));refine wpSeq_nil ?_;clear S;go_upto_region 1 with fail;obtain⟨W1,hW1⟩:∃W:World,W=(w.setCell ⟨bd,v,none⟩ (.int .i64 (L v-k*valence f.g v))).drew:=⟨_,rfl⟩;rw[← hW1];rw[← hW1]at HP0 HK0;clear hW1 p0 p1 p2 p3 p4 p5 c1 c2 fb w1 w2 l0 l1 l2;have HK0:Hid (KeptB w W1 (fun j=>j=f.b∨j=f.bd∨j=f.bf)):=by have h:=HK0.out;rw[HDE.out]at h;exact h
 obtain⟨_,_,p2,_,_,_⟩:=HP0.out.cells;have g1:=HP0.out.rows.at v hv;have l0:=HP0.out.blk.lt;have l3:=(owns_lt HP0.out.rows.outer).2;rw[← HBE.out]at p2 l0;have HBS:=hid (show f.bs v=f.bs v from rfl);have HRw:=hid (fun (w1:World) (L1 T1:Nat→Int) (t1:Int) (wt1:Nat→Bool) (h:PiI f w1 L1 T1 t1 wt1) (u:Nat) (hu:u<f.N)=>h.rows.cell v u hv hu);generalize f.bs v=br at*
 go_wp2;go_loopw [34] (fun i wr=>∃u:Nat,u≤f.N∧i= .int .i64 u∧Hid (PiI f wr (kSt f.g v k u L) T tot (fun j=>if j<u then isUnst f.g f.q (fireK f.g v k ⟨L,T⟩).L j else wt j))∧Hid (KeptB w wr (fun j=>j=f.b∨j=f.bd∨j=f.bf))) (fun i _=>f.N-(intOf i).toNat);case atStart=>exact⟨0,Nat.zero_le _,rfl,HP0,HK0⟩
 case round=>
  clear HP0 HK0 p2 g1 l0 l3;obtain⟨u,hu,rfl,HP,HK⟩:=hrel;obtain⟨W3,rfl⟩:∃W:World,W=wr:=⟨_,rfl⟩;obtain⟨q0,_,_,_,q4,q5⟩:=HP.out.cells;have l0:=HP.out.blk.lt;have l1:=(owns_lt HP.out.left).2;rw[← HBE.out]at q0 q4 q5 l0;by_cases hut:u<f.N
  ·have c1:=HP.out.leftAt u hut
   have c2:=HRw.out _ _ _ _ _ HP.out u hut;have fb:=HP.out.left.frozenAt u;rw[← HDE.out]at q0 c1 fb l1;have hu1:(u:Int)<(f.N:Int):=by omega
   have hu0:(0:Int)≤(u:Int):=by omega
   have hkr:=HKR.out u;have hsb: -2000000000000≤kSt f.g v k u L u∧kSt f.g v k u L u≤2000000000000:=by
    have h1:=HLB.out u hut;have h2:=HKV.out;unfold kSt;rw[if_neg (show ¬u<u by omega)];split
    ·rename_i e;subst e;omega
    ·omega
   have w1:IntKind.i64.wrap (k*rowsF f.g v u)=k*rowsF f.g v u:=IntWalk.i64_in _ (by omega);have w2:IntKind.i64.wrap (kSt f.g v k u L u+k*rowsF f.g v u)=kSt f.g v k u L u+k*rowsF f.g v u:=IntWalk.i64_in _ (by omega);have HP2:Hid (PiI f (W3.setCell ⟨bd,u,none⟩ (.int .i64 (kSt f.g v k u L u+k*rowsF f.g v u))) (kSt f.g v k (u+1) L) T tot (fun j=>if j<u then isUnst f.g f.q (fireK f.g v k ⟨L,T⟩).L j else wt j)):=by
    rw[HDE.out];exact(HP.out.setL u _).congr (fun j _=>kSt_succ _ _ _ _ _ _) (fun _ _=>rfl) (fun _ _=>rfl)
   have HK2:Hid (KeptB w (W3.setCell ⟨bd,u,none⟩ (.int .i64 (kSt f.g v k u L u+k*rowsF f.g v u))) (fun j=>j=f.b∨j=f.bd∨j=f.bf)):=kept_set HK.out (.inr (.inl HDE.out)) _ _;have hwt:=hid (p_wait f _ _ _ _ _ HP2.out u hut);rw[← HBE.out]at hwt;have HWE:Hid (∀ j:Nat,j<12→(if j=u then isUnst f.g f.q (kSt f.g v k (u+1) L) j else if j<u then isUnst f.g f.q (fireK f.g v k ⟨L,T⟩).L j else wt j)=if j<u+1 then isUnst f.g f.q (fireK f.g v k ⟨L,T⟩).L j else wt j):=fun j _=>by
    by_cases e:j=u
    ·subst e
     rw[if_pos rfl,if_pos (by omega)];exact isUnst_congr _ _ _ _ _ (kSt_low f.g v k _ L T _ (by omega))
    ·rw[if_neg e]
     by_cases e2:j<u
     ·rw[if_pos e2,if_pos (by omega)]
     ·rw[if_neg e2,if_neg (by omega)]
   generalize kSt f.g v k u L u=x at*
   generalize rowsF f.g v u=r at*
   clear hkr hsb HP HK q4 q5;go_wp2_with (go_at_call 325;refine hwt.out.mono ?_;rintro e w4 ⟨rfl,hP4,hK4⟩;have HP4:=hid hP4;have HK4:=hid hK4;clear hP4 hK4);go_roundw;case rel=>exact⟨u+1,by omega,by go_num,HP4.out.congr (fun _ _=>rfl) (fun _ _=>rfl) HWE.out,kept_trans HK2.out HK4.out (fun j hj=> .inl (by rw[show j=b from hj];exact HBE.out))⟩
   case measure=>simp[intOf];omega
  ·obtain rfl:u=f.N:=by omega
   have hu1:¬(f.N:Int)<(f.N:Int):=by omega
   clear q0 l1;have HPN:Hid (PiI f W3 (fireK f.g v k ⟨L,T⟩).L T tot (fun j=>if j<f.N then isUnst f.g f.q (fireK f.g v k ⟨L,T⟩).L j else wt j)):=HP.out.congr (fun j hj=>kSt_end _ _ _ _ _ _ _ hj) (fun _ _=>rfl) (fun _ _=>rfl);have hwt:=hid (p_wait f _ _ _ _ _ HPN.out v hv);rw[← HBE.out]at hwt;have HWE:Hid (∀ j:Nat,j<12→(if j=v then isUnst f.g f.q (fireK f.g v k ⟨L,T⟩).L j else if j<f.N then isUnst f.g f.q (fireK f.g v k ⟨L,T⟩).L j else wt j)=if j<f.N then isUnst f.g f.q (fireK f.g v k ⟨L,T⟩).L j else wt j):=fun j _=>by
    by_cases e:j=v
    ·subst e;rw[if_pos rfl,if_pos hv]
    ·rw[if_neg e]
   clear q4 q5;go_upto_region 8 with (go_at_call 325;refine hwt.out.mono ?_;rintro e w4 ⟨rfl,hP4,hK4⟩;have HP4:=hid (hP4.congr (fun _ _=>rfl) (fun _ _=>rfl) HWE.out);have HK4:=hid (kept_trans HK.out hK4 (fun j hj=> .inl (by rw[show j=b from hj];exact HBE.out)));clear hP4 hK4);obtain⟨_,_,_,_,q4,_⟩:=HP4.out.cells;have c1:=HP4.out.firedAt v hv;have fb:=HP4.out.fired.frozenAt v;have l1:=(owns_lt HP4.out.fired).2;rw[← HBE.out]at q4;have wt1:IntKind.i64.wrap (T v+k)=T v+k:=IntWalk.i64_in _ (by have:=HT.out;omega);have wt2:IntKind.i64.wrap (tot+k)=tot+k:=IntWalk.i64_in _ (by have:=HTT.out;omega);clear HP HK HPN hwt l0
   go_upto_region 9 with fail;obtain⟨W5,hW5⟩:∃W:World,W=w4.setCell ⟨f.bf,v,none⟩ (.int .i64 (T v+k)):=⟨_,rfl⟩;rw[← hW5];have HP5:Hid (PiI f W5 (fireK f.g v k ⟨L,T⟩).L (fireK f.g v k ⟨L,T⟩).T tot (fun j=>if j<f.N then isUnst f.g f.q (fireK f.g v k ⟨L,T⟩).L j else wt j)):=by
    rw[hW5];refine(HP4.out.setF v (T v+k)).congr (fun _ _=>rfl) (fun u _=> ?_) (fun _ _=>rfl);show(if u=v then T v+k else T u)=if u=v then T u+k else T u;by_cases e:u=v
    ·subst e;simp
    ·simp[e]
   have HK5:Hid (KeptB w W5 (fun j=>j=f.b∨j=f.bd∨j=f.bf)):=by rw[hW5];exact kept_set HK4.out (.inr (.inr rfl)) _ _
   clear hW5 HP4 HK4 q4 c1 fb l1;obtain⟨_,_,_,_,_,q5⟩:=HP5.out.cells;have l0:=HP5.out.blk.lt;have fb:=HP5.out.blk.frozen 5;have HP6:=hid (HP5.out.setTot (tot+k));have HK6:=hid (kept_set HK5.out (b:=f.b) (.inl rfl) 5 (.int .i64 (tot+k)));rw[← HBE.out]at q5 l0 fb HP6 HK6;go_wp2;go_end0;exact⟨rfl,HP6.out,by have h:=HK6.out;rw[HBE.out]at h ⊢;exact h⟩
theorem firstT_none (p:Nat→Bool):∀f k,(∀ i,k≤i→i<k+f→p i=false)→firstT p k f= -1
 |0,_,_=>rfl
 |f+1,k,h=>by
  unfold firstT;rw[h k (Nat.le_refl _) (by omega)];exact firstT_none p f (k+1) fun i h1 h2=>h i (by omega) (by omega)
theorem firstT_some (p:Nat→Bool)(u:Nat)(hu:p u=true):∀f k,k≤u→u<k+f→(∀ i,k≤i→i<u→p i=false)→firstT p k f=u
 |0,k,h1,h2,_=>by omega
 |f+1,k,h1,h2,h=>by
  unfold firstT;by_cases e:k=u
  ·subst e;rw[hu];rfl
  ·rw[h k (Nat.le_refl _) (by omega)]
   exact firstT_some p u hu f (k+1) (by omega) (by omega) fun i h3 h4=>h i (by omega) h4
theorem waitTo_head (p:Nat→Bool):∀N,match waitTo p N with
  |[]=>∀i,i<N→p i=false
  |v::_=>∃u:Nat,v=u∧u<N∧p u=true∧∀i,i<u→p i=false
 |0=>fun i h=>by omega
 |N+1=>by
  have ih:=waitTo_head p N;have e:waitTo p (N+1)=waitTo p N++(if p N then[(N:Int)]else[]):=by
   unfold waitTo;rw[List.range_succ,List.filter_append,List.map_append];congr 1;by_cases h:p N=true
   ·simp[h]
   ·simp[h]
  rw[e];cases hw:waitTo p N with
  |nil=>
   rw[hw]at ih
   by_cases h:p N=true
   ·rw[if_pos h]
    exact⟨N,rfl,by omega,h,ih⟩
   ·rw[if_neg h]
    intro i hi;by_cases e:i=N
    ·subst e;simpa using h
    ·exact ih i (by omega)
  |cons v l=>
   rw[hw]at ih
   obtain⟨u,h1,h2,h3,h4⟩:=ih
   exact⟨u,h1,by omega,h3,h4⟩
def WtOk (f:PFr)(L:Nat→Int)(wt:Nat→Bool):Prop:=∀u,u<12→wt u=(decide (u<f.N)&&isUnst f.g f.q L u)
theorem firstT_wait (f:PFr)(L:Nat→Int)(wt:Nat→Bool)(hw:WtOk f L wt)(hN:f.N≤12):firstT wt 0 12=match waitN f.g f.q f.N L with|[]=> -1|v::_=>v:=by
 have h:=waitTo_head (isUnst f.g f.q L) f.N;change match waitN f.g f.q f.N L with|[]=>_|v::_=>_ at h
 cases hz:waitN f.g f.q f.N L with
 |nil=>
  rw[hz]at h
  refine firstT_none wt 12 0 fun i _ hi=> ?_
  rw[hw i (by omega)]
  by_cases e:i<f.N
  ·rw[h i e];simp
  ·simp[e]
 |cons v l=>
  rw[hz]at h
  obtain⟨u,rfl,h2,h3,h4⟩:=h
  refine firstT_some wt u (by rw[hw u (by omega),h3];simp[h2]) 12 0 (Nat.zero_le _) (by omega) fun i _ hi=> ?_
  rw[hw i (by omega),h4 i hi];simp
theorem okS_fireK {g:G}(hg:Gok g){N:Nat}{c:Int}{i:Nat}{s:St}(h:okS N c i s)(v:Nat)(k:Nat):okS N c (i+k) (fireK g v k s):=by
 have hv:=val_bd hg v;have h3:0≤(k:Int)*valence g v∧(k:Int)*valence g v≤600*k:=by
  refine⟨Int.mul_nonneg (by omega) hv.1,?_⟩;rw[Int.mul_comm];exact Int.mul_le_mul_of_nonneg_right hv.2 (by omega)
 refine⟨fun u hu=> ?_,fun u hu=> ?_⟩
 ·have h1:=h.1 u hu
  have h2:=rowsF_bd hg v u;have h4:0≤(k:Int)*rowsF g v u∧(k:Int)*rowsF g v u≤50*k:=by
   refine⟨Int.mul_nonneg (by omega) h2.1,?_⟩;rw[Int.mul_comm];exact Int.mul_le_mul_of_nonneg_right h2.2 (by omega)
  show _≤(if u=v then s.L u-k*valence g v else s.L u)+k*rowsF g v u∧(if u=v then s.L u-k*valence g v else s.L u)+k*rowsF g v u≤_;split<;>omega
 ·have h1:=h.2 u hu
  show _≤(if u=v then s.T u+k else s.T u)∧(if u=v then s.T u+k else s.T u)≤_;split<;>omega
def RetStl (f:PFr)(z:Option St)(w:World)(e:Ending)(w':World):Prop:=
 (∃ (s:St) (tot:Nat) (wt:Nat→Bool),PiI f w' s.L s.T tot wt∧KeptB w w' (fun j=>j=f.b∨j=f.bd∨j=f.bf)∧WtOk f s.L wt∧(tot:Int)=sumTo s.T f.N∧
   ((z=some s∧e= .returned (.int .i64 0)∧tot≤maxF∧okS f.N 1048576 tot s)∨(z=none∧e= .returned (.int .i64 12))))
noncomputable def totOf (b:Nat)(w:World):Nat:=match w.cell? ⟨b,5,none⟩with|some (.int _ t)=>t.toNat|_=>0
theorem p_settle (f:PFr)(w:World)(s0:St)(tot0:Nat)(wt0:Nat→Bool)(h:PiI f w s0.L s0.T tot0 wt0)(hw0:WtOk f s0.L wt0)(hok:okS f.N 1048576 tot0 s0)(hs0:(tot0:Int)=sumTo s0.T f.N)(ht0:tot0≤maxF)
 (hpos:∀v,v<f.N→v≠f.q→0<valence f.g v):
 Calls Tryz.prog 261 #[.pointer (some ⟨f.b,0,none⟩)] w (RetStl f (stGo f.g f.q f.N (maxF+1-tot0) tot0 s0) w):=by
 generalize hz:stGo f.g f.q f.N (maxF+1-tot0) tot0 s0=z;have HZ:Hid (stGo f.g f.q f.N (maxF+1-tot0) tot0 s0=z):=hz;have hmf:∀(fn:Fn) (first cap:Array Value) (w:World),(Instr.makeFunc fn first cap).run Tryz.prog w= .ok (.func fn first cap) w:=fun _ _ _ _=>rfl;have HN:=hid h.N12;have HG:=hid h.gok;have hnx:=hid (fun (w1:World) (L T:Nat→Int) (t:Int) (wt:Nat→Bool) (h1:PiI f w1 L T t wt)=>p_next f w1 L T t wt h1);have HFW:=hid (fun (L:Nat→Int) (wt:Nat→Bool) (h1:WtOk f L wt)=>firstT_wait f L wt h1 h.N12.2);have HP0:=hid h;have HW0:=hid hw0;have HOK0:=hid hok;have HS0:=hid hs0;have HT0:=hid ht0;have HPOS:=hid hpos
 have HMF:Hid ((maxF:Int)=1048576):=maxF_eq;have hnx0:=hid (hnx.out w _ _ _ _ h);clear hz h hw0 hok hs0 ht0 hpos;obtain⟨b,hbe⟩:∃b,b=f.b:=⟨_,rfl⟩;have HBE:=hid hbe;rw[← hbe]at hnx hnx0⊢;clear hbe;go_enter Tryz.func261,Tryz.ntmps261;go_wp2_with (go_at_call 327;refine hnx0.out.mono ?_;rintro e w1 ⟨rfl,rfl⟩)
 go_loopw [4] (fun vv wr=>∃(s:St) (tot fu:Nat) (wt:Nat→Bool),vv= .int .i64 (firstT wt 0 12)∧Hid (PiI f wr s.L s.T tot wt)∧Hid (WtOk f s.L wt)∧Hid (okS f.N 1048576 tot s)∧Hid ((tot:Int)=sumTo s.T f.N)∧Hid (tot≤maxF)∧Hid (maxF<fu+tot)∧
  Hid (stGo f.g f.q f.N fu tot s=z)∧Hid (KeptB w wr (fun j=>j=f.b∨j=f.bd∨j=f.bf))) (fun _ wr=>maxF+1-totOf f.b wr)
 case atStart=>exact⟨s0,tot0,maxF+1-tot0,wt0,rfl,HP0,HW0,HOK0,HS0,HT0,by show _<_;have:=HT0.out;omega,HZ,kept_refl _ _⟩
 case round=>
  clear HP0 HW0 HOK0 HS0 HT0 HZ hnx0;obtain⟨s,tot,fu,wt,rfl,HP,HW,HOK,HS,HT,HFU,HZ,HK⟩:=hrel;obtain⟨W3,rfl⟩:∃W:World,W=wr:=⟨_,rfl⟩;have hfw:=HFW.out _ _ HW.out;cases hwn:waitN f.g f.q f.N s.L with
  |nil=>
   rw[hwn]at hfw
   rw[show firstT wt 0 12= -1 from hfw]
   have HR:Hid (z=some s):=by
    show _=_;rw[← HZ.out];cases fu with
    |zero=>unfold stGo;rw[if_pos hwn]
    |succ fu=>unfold stGo;rw[hwn]
   clear hwn hfw
   go_wp2
   go_ret
   exact⟨s,tot,wt,HP.out,HK.out,HW.out,HS.out,.inl ⟨HR.out,rfl,HT.out,HOK.out⟩⟩
  |cons x l=>
   rw[hwn]at hfw
   obtain⟨v,rfl,hv,hq,hle⟩:=wait_head hwn
   rw[show firstT wt 0 12=(v:Int)from hfw]
   have hvp:=HPOS.out v hv (by omega)
   obtain⟨k1,k2⟩:=div_legal hvp hle
   obtain⟨k,hk⟩:=Int.eq_ofNat_of_zero_le (show (0:Int)≤s.L v/valence f.g v by omega)
   have hLv:=HOK.out.1 v hv
   have hkL:s.L v/valence f.g v≤s.L v:=Int.ediv_le_self _ (by omega)
   have HZ2:Hid ((if (maxF:Int)<tot+k then none else stGo f.g f.q f.N (fu-1) (tot+k) (fireK f.g v k s))=z):=by
    show _=_;rw[← HZ.out];obtain⟨m,hm⟩:∃m,fu=m+1:=⟨fu-1,by have:=HT.out;have:=HFU.out;omega⟩;subst hm;conv=>rhs;unfold stGo
    rw[hwn];simp only[Int.toNat_natCast,hk,Nat.add_sub_cancel]
   have htd:(s.L v).tdiv (valence f.g v)=(k:Int):=by rw[Int.tdiv_eq_ediv_of_nonneg (by omega),hk]
   rw[hk]at k1 k2 hkL
   have hmf2:=HMF.out
   have hTT:=HT.out
   have hk9:(k:Int)≤1000000000:=by omega
   have HK1:=hid k1
   have hfr:=hid (fun (w1:World) (h1:PiI f w1 s.L s.T tot wt)=>p_fire f w1 s.L s.T tot wt h1 v hv k (by omega) hk9 (fun u hu=>by have:=HOK.out.1 u hu;omega) (by have:=HOK.out.2 v hv;omega) (by omega))
   have HOK2:=hid (okS_fireK HG.out HOK.out v k)
   have HS2:Hid (((tot+k:Nat):Int)=sumTo (fireK f.g v k s).T f.N):=by show _=_;rw[sum_fire f.g s hv,←HS.out];omega
   have HW2:Hid (WtOk f (fireK f.g v k s).L (fun u=>if u<f.N then isUnst f.g f.q (fireK f.g v k s).L u else wt u)):=fun u hu=>by
    show(if u<f.N then isUnst f.g f.q (fireK f.g v k s).L u else wt u)=_;by_cases e:u<f.N
    ·simp[e]
    ·rw[if_neg e,HW.out u hu];simp[e]
   obtain⟨p0,_,_,p3,_,_⟩:=HP.out.cells
   have c1:=HP.out.leftAt v hv
   have c2:=HP.out.valsAt v hv
   have l0:=HP.out.blk.lt
   have l1:=(owns_lt HP.out.left).2
   have l2:=(owns_lt HP.out.vals).2
   rw[← HBE.out]at p0 p3 l0 hfr
   have hv0:(0:Int)≤(v:Int):=by omega
   have hv1:(v:Int)<(f.N:Int):=by omega
   have hvn:¬valence f.g v=0:=by omega
   have wq:IntKind.i64.wrap (k:Int)=(k:Int):=IntWalk.i64_in _ (by omega)
   clear hwn hfw hle k1 k2 hk hkL hLv hmf2 hTT hk9 hvp hq HZ HW
   generalize s.L v=xL at*
   generalize valence f.g v=yV at*
   go_wp2_with fail
   let S:World→Prop:=fun w'=>w'.cell? ⟨b,0,none⟩=some (.slice (some ⟨f.bd,0,none⟩) f.N f.cd)∧w'.cell? ⟨b,3,none⟩=some (.slice (some ⟨f.bv,0,none⟩) f.N f.N)∧w'.cell? ⟨f.bd,v,none⟩=some (.int .i64 xL)∧w'.cell? ⟨f.bv,v,none⟩=some (.int .i64 yV)
   (refine wp_region_text 17 [0,1,2,3,4,5,6,7,8,9,10,11,12,13,14,15,16] S (by kernel_rfl) (by kernel_rfl) (by intro _ _ d _ _ h;cases d<;>exact h) ?hS ?_;rotate_left;simp only[xA,xB,xC,xD,xE,xF])
   case hS=>exact⟨p0,p3,c1,c2⟩
   (repeat ((refine' wpSeq_take rfl _ (by rfl) ?_ ?_;rotate_left;focus(intro w' hS;(try dsimp only at hS);obtain⟨s1,s2,s3,s4⟩:=hS;go_simp;(first|done|with_reducible rfl));(try go_frame));(try go_frame)))
   refine wpSeq_nil ?_
   clear S p0 p3 c1 c2 l0 l1 l2
   have HPd:=hid HP.out.drew
   have HKd:=hid (kept_trans HK.out (kept_below (p:=fun _=>False) (Below.drew (Below.refl _ W3))) (fun _ h=>h.elim))
   have HMs:Hid (totOf f.b W3=tot):=by
    show _=_;unfold totOf;rw[HP.out.cells.2.2.2.2.2];exact Int.toNat_natCast tot
   by_cases hm:(maxF:Int)<tot+k
   ·have hmb:(1048576:Int)<(tot:Int)+(k:Int):=by have:=HMF.out;omega
    have HR:Hid (z=none):=by show _=_;rw[← HZ2.out,if_pos hm]
    clear hm HZ2 HP HK;go_wp2_with fail;refine(hfr.out _ HPd.out).mono ?_;rintro e w4 ⟨rfl,hP4,hK4⟩;have HP4:=hid hP4;have HK4:=hid (kept_trans HKd.out hK4 (fun _ h=>by rw[← HBE.out];exact h));obtain⟨_,_,_,_,_,p5⟩:=hP4.cells;have l0:=hP4.blk.lt;rw[← HBE.out]at p5 l0;clear hP4 hK4;go_simp;go_wp2_with fail;go_ret;refine⟨fireK f.g v k s,tot+k,_,?_,HK4.out,HW2.out,HS2.out,.inr ⟨HR.out,rfl⟩⟩;rw[Int.natCast_add];exact HP4.out
   ·have hmb:¬(1048576:Int)<(tot:Int)+(k:Int):=by have:=HMF.out;omega
    have HZ3:Hid (stGo f.g f.q f.N (fu-1) ((tot+k:Nat):Int) (fireK f.g v k s)=z):=by show _=_;rw[← HZ2.out,if_neg hm,Int.natCast_add]
    have HT2:Hid (tot+k≤maxF):=by show _≤_;omega
    have HF2:Hid (maxF<fu-1+(tot+k)):=by show _<_;have:=HFU.out;have:=HK1.out;omega
    clear hm HZ2 HP HK;go_wp2_with fail;refine(hfr.out _ HPd.out).mono ?_;rintro e w4 ⟨rfl,hP4,hK4⟩;have HP4:=hid hP4;have HK4:=hid (kept_trans HKd.out hK4 (fun _ h=>by rw[← HBE.out];exact h));obtain⟨_,_,_,_,_,p5⟩:=hP4.cells;have l0:=hP4.blk.lt;rw[← HBE.out]at p5 l0;clear hP4 hK4;go_simp;go_wp2_with fail;refine(hnx.out w4 _ _ _ _ HP4.out).mono ?_;rintro e w5 ⟨rfl,rfl⟩;go_simp;go_wp2_with fail;go_roundw
    case rel=>
     refine⟨fireK f.g v k s,tot+k,fu-1,_,rfl,?_,HW2,HOK2,HS2,HT2,HF2,HZ3,HK4⟩;rw[Int.natCast_add];exact HP4
    case measure=>
     have e1:=HMs.out;have e2:totOf f.b w4=tot+k:=by
      unfold totOf;rw[HP4.out.cells.2.2.2.2.2];show((tot:Int)+(k:Int)).toNat=_;omega
     rw[e2,e1];have:=HT2.out;have:=HK1.out;omega
def RetStd (f:PFr)(z:Option St)(w:World)(e:Ending)(w':World):Prop:=
 ∃(s:St) (tot:Nat) (wt:Nat→Bool),PiI f w' s.L s.T tot wt∧KeptB w w' (fun j=>j=f.b∨j=f.bd∨j=f.bf)∧(tot:Int)=sumTo s.T f.N∧
    ((z=some s∧e= .returned (.int .i64 (if 1048576<s.L f.q then 11 else 0)))∨(z=none∧e= .returned (.int .i64 12)))
theorem p_settled (f:PFr)(w:World)(s0:St)(tot0:Nat)(wt0:Nat→Bool)(h:PiI f w s0.L s0.T tot0 wt0)(hw0:WtOk f s0.L wt0)(hok:okS f.N 1048576 tot0 s0)(hs0:(tot0:Int)=sumTo s0.T f.N)(ht0:tot0≤maxF)
 (hpos:∀v,v<f.N→v≠f.q→0<valence f.g v) (hqN:f.q<f.N):
 Calls Tryz.prog 199 #[.pointer (some ⟨f.b,0,none⟩)] w (RetStd f (stGo f.g f.q f.N (maxF+1-tot0) tot0 s0) w):=by
 have hst:=hid (p_settle f w s0 tot0 wt0 h hw0 hok hs0 ht0 hpos);have HQ:=hid hqN;clear h hw0 hok hs0 ht0 hpos hqN;generalize stGo f.g f.q f.N (maxF+1-tot0) tot0 s0=z at*
 obtain⟨b,hbe⟩:∃b,b=f.b:=⟨_,rfl⟩;have HBE:=hid hbe;rw[← hbe]at hst⊢;rw[hbe]at hst;rw[← hbe]at hst;clear hbe;go_enter Tryz.func199,Tryz.ntmps199;go_wp2_with fail;refine hst.out.mono ?_;rintro e w1 ⟨s,tot,wt,hP,hK,hW,hS,⟨rfl,rfl,hT,hO⟩|⟨rfl,rfl⟩⟩
 ·obtain⟨p0,p1,_,_,_,_⟩:=hP.cells
  have c1:=hP.leftAt f.q HQ.out;have l0:=hP.blk.lt;have l1:=(owns_lt hP.left).2;rw[← HBE.out]at p0 p1 l0;have hq0:(0:Int)≤(f.q:Int):=by omega
  have hq1:(f.q:Int)<(f.N:Int):=by have:=HQ.out;omega
  have HP:=hid hP;have HK:Hid (KeptB w w1 (fun j=>j=f.b∨j=f.bd∨j=f.bf)):=hK;clear hP hK hW hT hO hst;by_cases hx:1048576<s.L f.q
  ·have HX:Hid ((if 1048576<s.L f.q then(11:Int)else 0)=11):=if_pos hx
   generalize hxe:s.L f.q=x at c1 hx;go_simp;go_wp2;go_quiet (fail);go_wp2;go_ret;exact⟨s,tot,wt,HP.out.mono (below_dN (Below.refl _ _) _),kept_trans HK.out (kept_below (p:=fun _=>False) (below_dN (Below.refl _ _) _)) (fun _ h=>h.elim),hS,.inl ⟨rfl,by rw[HX.out];rfl⟩⟩
  ·have HX:Hid ((if 1048576<s.L f.q then(11:Int)else 0)=0):=if_neg hx
   generalize hxe:s.L f.q=x at c1 hx;go_simp;go_wp2;go_quiet (fail);go_wp2;go_ret;exact⟨s,tot,wt,HP.out.mono (below_dN (Below.refl _ _) _),kept_trans HK.out (kept_below (p:=fun _=>False) (below_dN (Below.refl _ _) _)) (fun _ h=>h.elim),hS,.inl ⟨rfl,by rw[HX.out];rfl⟩⟩
 ·go_simp
  go_wp2;go_ret;exact⟨s,tot,wt,hP,hK,hS,.inr ⟨rfl,rfl⟩⟩
end Go.Proofs.YtclgllmipcbagaaGreatDoor
