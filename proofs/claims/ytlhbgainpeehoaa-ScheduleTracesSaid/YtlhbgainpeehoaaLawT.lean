/-
  ScheduleTraces: for every graph, every divisor and every plan the law returns true, and its arguments read as before. No conditions beyond the row's own.
-/
import Derived.Test.YtlhbgainpeehoaaAb3
import Derived.Test.YtlhbgainpeehoaaP40
namespace Go.Proofs.Ytlhbgainpeehoaa
open Go.RowKit

/-- The moves among the first k of a trace. -/
def mvTo (tr : List Int) : Nat → List Int
  | 0 => []
  | k + 1 => if 0 ≤ tr[k]?.getD 0 then mvTo tr k ++ [tr[k]?.getD 0] else mvTo tr k
/-- Does no chip fall in the first k events? -/
def qtTo (l : List (Int × Int)) : Nat → Bool
  | 0 => true
  | k + 1 => qtTo l k && ((l[k]?.getD (0, 0)).1 == 0)
theorem cntTo_app (ms : List Int) (x : Int) : ∀ k, k ≤ ms.length → ∀ u, cntTo (ms ++ [x]) k u = cntTo ms k u
  | 0, _, _ => rfl
  | k + 1, h, u => by
    unfold cntTo
    rw [cntTo_app ms x k (by omega) u, List.getElem?_append_left (by omega)]
theorem cntTo_snoc (ms : List Int) (x : Int) (u : Nat) : cntTo (ms ++ [x]) (ms ++ [x]).length u = cntTo ms ms.length u + if x = (u : Int) then 1 else 0 := by
  rw [show (ms ++ [x]).length = ms.length + 1 by simp]
  show cntTo (ms ++ [x]) ms.length u + _ = _
  rw [cntTo_app ms x ms.length (Nat.le_refl _) u]
  simp
theorem plTo_app (g : G) (L : Nat → Int) (ms : List Int) (x : Int) : ∀ k, k ≤ ms.length → plTo g L (ms ++ [x]) k = plTo g L ms k
  | 0, _ => rfl
  | k + 1, h => by
    unfold plTo
    rw [plTo_app g L ms x k (by omega), List.getElem?_append_left (by omega)]
theorem get_snoc (ms : List Int) (x : Int) (k : Nat) : (ms ++ [x])[k]?.getD 0 = if k < ms.length then ms[k]?.getD 0 else if k = ms.length then x else 0 := by
  by_cases h : k < ms.length
  · rw [if_pos h, List.getElem?_append_left h]
  · rw [if_neg h, List.getElem?_append_right (by omega)]
    by_cases e : k = ms.length
    · subst e; simp
    · rw [if_neg e]
      obtain ⟨j, hj⟩ : ∃ j, k - ms.length = j + 1 := ⟨k - ms.length - 1, by omega⟩
      rw [hj]
      simp
theorem ev_get (g : G) (q : Int) (N : Nat) (l : List (Int × Int)) (s0 : St) : ∀ n k, k < n → (evTo g q N l s0 n).2[k]?.getD 0 = (evStp g q N (l[k]?.getD (0, 0)) (evTo g q N l s0 k).1).2
  | 0, k, h => by omega
  | n + 1, k, h => by
    have hl := evTo_len g q N l s0 n
    show ((evTo g q N l s0 n).2 ++ [(evStp g q N (l[n]?.getD (0, 0)) (evTo g q N l s0 n).1).2])[k]?.getD 0 = _
    rw [get_snoc, hl]
    by_cases e : k < n
    · rw [if_pos e]; exact ev_get g q N l s0 n k e
    · have e2 : k = n := by omega
      subst e2
      rw [if_neg e, if_pos rfl]

/-- What is known of the moves ms that stand for a run from L to s. -/
structure Mvs (g : G) (q : Int) (N : Nat) (L : Nat → Int) (ms : List Int) (s : St) (k : Nat) (b : Bool) : Prop where
  vt : ∀ i, i < ms.length → vtx g.n (ms[i]?.getD 0) = true
  len : ms.length ≤ k
  cnt : ∀ u, u < N → cntTo ms ms.length u = s.T u
  pl : b = true → plTo g L ms ms.length = s.L
  leg : b = true → ∀ i, i < ms.length → 0 < valence g (ms[i]?.getD 0).toNat ∧ valence g (ms[i]?.getD 0).toNat ≤ plTo g L ms i (ms[i]?.getD 0).toNat
  bd : b = true → ∀ i, i ≤ ms.length → ∀ u, u < N → -1048576 ≤ plTo g L ms i u ∧ plTo g L ms i u ≤ 1048576

theorem evStp_two (g : G) (q : Int) (N : Nat) (x : Int × Int) (s : St) (h2 : 0 ≤ x.2) (_hq : 0 ≤ q) :
    ((evStp g q N x s).2 = -1 ∧ (x.1 ≠ 1 → (evStp g q N x s).1 = s) ∧ (evStp g q N x s).1.T = s.T) ∨
      (x.1 ≠ 1 ∧ ∃ v : Nat, (evStp g q N x s).2 = v ∧ v < N ∧ (v : Int) ≠ q ∧ valence g v ≤ s.L v ∧ (evStp g q N x s).1 = fireS g v s) := by
  unfold evStp
  by_cases h : x.1 = 1
  · rw [if_pos h]; exact .inl ⟨rfl, fun h' => absurd h h', rfl⟩
  · rw [if_neg h]
    by_cases hw : waitN g q N s.L = []
    · rw [if_pos hw]; exact .inl ⟨rfl, fun _ => rfl, rfl⟩
    · rw [if_neg hw]
      obtain ⟨c1, c2, c3, c4⟩ := chosen_bd g q N s.L x.2 h2 hw
      generalize chosen (waitN g q N s.L) x.2 = c at *
      obtain ⟨v, rfl⟩ := Int.eq_ofNat_of_zero_le c1
      exact .inr ⟨h, v, rfl, by omega, c3, c4, rfl⟩

theorem mvs_to {g : G} (hg : Gok g) (q : Nat) (N : Nat) (hN : N = g.n.toNat) (hpos : ∀ v, v < N → (v : Int) ≠ (q : Int) → 0 < valence g v) (d : Nat → Int) (l : List (Int × Int)) (hl : l.length ≤ 60) (h0 : okS N 60 0 ⟨d, fun _ => 0⟩)
    (he : ∀ k, k < l.length → 0 ≤ (l[k]?.getD (0, 0)).2) (tr : List Int) (htr : ∀ k, k < l.length → tr[k]?.getD 0 = (evStp g q N (l[k]?.getD (0, 0)) (evTo g q N l ⟨d, fun _ => 0⟩ k).1).2) :
    ∀ k, k ≤ l.length → Mvs g q N d (mvTo tr k) (evTo g q N l ⟨d, fun _ => 0⟩ k).1 k (qtTo l k)
  | 0, _ => ⟨fun i h => by simp [mvTo] at h, by simp [mvTo], fun u _ => rfl, fun _ => rfl, fun _ i h => by simp [mvTo] at h, fun _ i h u hu => by
      have e : i = 0 := by simp [mvTo] at h; exact h
      subst e
      have := h0.1 u hu
      show -1048576 ≤ d u ∧ d u ≤ 1048576
      dsimp only at this
      omega⟩
  | k + 1, hk => by
    have ih := mvs_to hg q N hN hpos d l hl h0 he tr htr k (by omega)
    have ok1 := evTo_ok hg q N l ⟨d, fun _ => 0⟩ 60 h0 (k + 1)
    have ht := htr k (by omega)
    have h2 := he k (by omega)
    show Mvs g q N d (if 0 ≤ tr[k]?.getD 0 then mvTo tr k ++ [tr[k]?.getD 0] else mvTo tr k) (evStp g q N (l[k]?.getD (0, 0)) (evTo g q N l ⟨d, fun _ => 0⟩ k).1).1 (k + 1) (qtTo l k && ((l[k]?.getD (0, 0)).1 == 0))
    have ok2 : okS N 60 (k + 1) (evStp g q N (l[k]?.getD (0, 0)) (evTo g q N l ⟨d, fun _ => 0⟩ k).1).1 := ok1
    have e2 := evStp_two g q N (l[k]?.getD (0, 0)) (evTo g q N l ⟨d, fun _ => 0⟩ k).1 h2 (by omega)
    rw [ht]
    generalize (evTo g q N l ⟨d, fun _ => 0⟩ k).1 = s at *
    generalize l[k]?.getD (0, 0) = x at *
    generalize mvTo tr k = ms at *
    generalize qtTo l k = b at *
    rcases e2 with ⟨a1, a2, a3⟩ | ⟨a0, v, a1, a2, a3, a4, a5⟩
    · rw [a1, if_neg (by omega)]
      have hb : ∀ h : (b && x.1 == 0) = true, b = true ∧ (evStp g q N x s).1 = s := fun h => by
        simp only [Bool.and_eq_true, beq_iff_eq] at h
        exact ⟨h.1, a2 (by omega)⟩
      exact ⟨ih.vt, by have := ih.len; omega, fun u hu => by rw [a3]; exact ih.cnt u hu, fun h => by rw [(hb h).2]; exact ih.pl (hb h).1, fun h => ih.leg (hb h).1, fun h => ih.bd (hb h).1⟩
    · rw [a1, if_pos (by omega)]
      rw [a5] at ok2 ⊢
      have hb : ∀ h : (b && x.1 == 0) = true, b = true := fun h => by simp only [Bool.and_eq_true] at h; exact h.1
      have hlen : (ms ++ [(v : Int)]).length = ms.length + 1 := by simp
      have hpl : b = true → plTo g d (ms ++ [(v : Int)]) (ms ++ [(v : Int)]).length = (fireS g v s).L := fun h => by
        rw [hlen]
        show fireL g ((ms ++ [(v : Int)])[ms.length]?.getD 0).toNat (plTo g d (ms ++ [(v : Int)]) ms.length) = fireL g v s.L
        rw [plTo_app g d ms v ms.length (Nat.le_refl _), ih.pl h, get_snoc, if_neg (by omega), if_pos rfl, Int.toNat_natCast]
      refine ⟨fun i hi => ?_, by rw [hlen]; have := ih.len; omega, fun u hu => ?_, fun h => hpl (hb h), fun h i hi => ?_, fun h i hi u hu => ?_⟩
      · rw [hlen] at hi
        rw [get_snoc]
        by_cases e : i < ms.length
        · rw [if_pos e]; exact ih.vt i e
        · rw [if_neg e, if_pos (by omega)]
          unfold vtx
          simp
          omega
      · rw [cntTo_snoc, ih.cnt u hu]
        show _ = if u = v then s.T u + 1 else s.T u
        by_cases e : u = v
        · subst e; simp
        · rw [if_neg (by omega), if_neg e]; omega
      · rw [hlen] at hi
        rw [get_snoc, plTo_app g d ms v i (by omega)]
        by_cases e : i < ms.length
        · rw [if_pos e]; exact ih.leg (hb h) i e
        · have e1 : i = ms.length := by omega
          subst e1
          rw [if_neg e, if_pos rfl, Int.toNat_natCast, ih.pl (hb h)]
          exact ⟨hpos v a2 a3, a4⟩
      · rw [hlen] at hi
        by_cases e : i ≤ ms.length
        · rw [plTo_app g d ms v i e]; exact ih.bd (hb h) i e u hu
        · have e1 : i = (ms ++ [(v : Int)]).length := by rw [hlen]; omega
          subst e1
          rw [hpl (hb h)]
          have := ok2.1 u hu
          omega

/-- The trace of a small plan. -/
theorem traces_law {g : G} {q : Int} {ds : List Int} {l : List (Int × Int)} (hc : cfgErr g q ds = 0) (he : evsErr g l = 0) (hl : l.length ≤ 60) (hs : small17 ds = true) :
    ∃ (s : St) (tr : List Int), runR g q ds l = .inr s ∧ traceR g q ds l = .inr tr ∧ tr.length = l.length ∧ Mvs g q g.n.toNat (dOf ds) (mvTo tr l.length) s l.length (qtTo l l.length) ∧
      ∀ k, k < l.length → ((l[k]?.getD (0, 0)).1 = 1 → tr[k]?.getD 0 = -1) ∧ tr[k]?.getD 0 ≠ q ∧ -1 ≤ tr[k]?.getD 0 ∧ tr[k]?.getD 0 < g.n := by
  obtain ⟨hk, hq0, hqn, hdl, hdb, hdn⟩ := cfg_ok hc
  have hn := hk.n
  obtain ⟨Q, rfl⟩ := Int.eq_ofNat_of_zero_le hq0
  obtain ⟨N, hN⟩ : ∃ N, N = g.n.toNat := ⟨_, rfl⟩
  rw [← hN]
  have hQN : Q < N := by omega
  obtain ⟨_, hev⟩ := evs_ok he
  have hpos : ∀ v : Nat, v < N → (v : Int) ≠ (Q : Int) → 0 < valence g v := fun v hv hne => val_pos hk (cfg_con hc) (q := Q) (by omega) (by omega) (by omega)
  have hd60 : ∀ u, u < N → -60 ≤ dOf ds u ∧ dOf ds u ≤ 60 := fun u hu => by
    unfold small17 at hs
    have hu' : u < ds.length := by omega
    have := List.all_eq_true.1 hs _ (List.getElem_mem hu')
    simp at this
    unfold dOf
    rw [List.getElem?_eq_getElem hu']
    exact this
  have ok0 : okS N 60 0 ⟨dOf ds, fun _ => 0⟩ := ⟨fun u hu => by have := hd60 u hu; dsimp only; omega, fun u hu => by dsimp only; omega⟩
  have hbd := evTo_ok hk Q N l ⟨dOf ds, fun _ => 0⟩ 60 ok0 l.length
  have hrun : runR g Q ds l = if bddB N (evTo g Q N l ⟨dOf ds, fun _ => 0⟩ l.length).1.L then .inr (evTo g Q N l ⟨dOf ds, fun _ => 0⟩ l.length).1 else .inl 11 := by
    unfold runR
    rw [if_neg (by unfold runErr; simp [hc, he]), ← hN]
    rfl
  have htra : traceR g Q ds l = .inr (evTo g Q N l ⟨dOf ds, fun _ => 0⟩ l.length).2 := by
    unfold traceR
    rw [if_neg (by unfold runErr; simp [hc, he]), ← hN]
    rfl
  have hbb : bddB N (evTo g Q N l ⟨dOf ds, fun _ => 0⟩ l.length).1.L = true := by
    unfold bddB
    rw [List.all_eq_true]
    intro x hx
    unfold vecOf at hx
    obtain ⟨u, hu, rfl⟩ := List.mem_map.1 hx
    have := hbd.1 u (List.mem_range.1 hu)
    unfold inB
    simp
    omega
  rw [hbb, if_pos rfl] at hrun
  have hget := fun k hk => ev_get g Q N l ⟨dOf ds, fun _ => 0⟩ l.length k hk
  refine ⟨_, _, hrun, htra, evTo_len _ _ _ _ _ _, mvs_to hk Q N hN hpos (dOf ds) l hl ok0 (fun k hk => (hev k hk).2.1) _ hget l.length (Nat.le_refl _), fun k hk => ?_⟩
  rw [hget k hk]
  rcases evStp_two g Q N (l[k]?.getD (0, 0)) (evTo g Q N l ⟨dOf ds, fun _ => 0⟩ k).1 (hev k hk).2.1 hq0 with ⟨a1, _, _⟩ | ⟨a0, v, a1, a2, a3, _, _⟩
  · rw [a1]; exact ⟨fun _ => rfl, by omega, by omega, by omega⟩
  · rw [a1]; exact ⟨fun h => absurd h a0, a3, by omega, by omega⟩

def trcL : Int ⊕ List Int → List Int
  | .inl _ => []
  | .inr tr => tr
def trcK : Int ⊕ List Int → Int
  | .inl k => k
  | .inr _ => 0
theorem trc_ints {w w1 : World} {r : Int ⊕ List Int} {e : Ending} (hN : ∀ tr, r = .inr tr → tr.length ≤ 1000000) (hr : RetTrc 3 w r e w1) :
    Below w.heap.size w w1 ∧ ∃ va, e = .returned (.tuple #[va, .int .i64 (trcK r)]) ∧ IntsR w1 va (trcL r) := by
  cases r with
  | inl k => obtain ⟨hB, rfl⟩ := hr; exact ⟨hB, _, rfl, ints_nil _⟩
  | inr tr =>
    obtain ⟨hB, v, he, h1⟩ := hr
    obtain ⟨a, c, rfl⟩ := owns_slice h1
    exact ⟨hB, _, he, owns_intsN h1 rfl (hN tr rfl)⟩
theorem run_small {g : G} {q : Int} {ds : List Int} {l : List (Int × Int)} (s : St) (h : runR g q ds l = .inr s) : g.n.toNat ≤ 1000000 := by
  by_cases hg : runErr g q ds l = 0
  · have hc : checkErr g = 0 := (cfg_ok (run_ok hg).1).1
    unfold checkErr at hc
    split at hc <;> omega
  · unfold runR at h; rw [if_pos hg] at h; cases h
theorem trace_small {g : G} {q : Int} {ds : List Int} {l : List (Int × Int)} (tr : List Int) (h : traceR g q ds l = .inr tr) : tr.length ≤ 1000000 := by
  by_cases hg : runErr g q ds l = 0
  · have h2 := (evs_ok (run_ok hg).2).1
    unfold traceR at h
    rw [if_neg (by simpa using hg)] at h
    obtain rfl := Sum.inr.inj h
    rw [evTo_len]
    omega
  · unfold traceR at h; rw [if_pos hg] at h; cases h

theorem mvTo_len (tr : List Int) : ∀ k, (mvTo tr k).length ≤ k
  | 0 => by simp [mvTo]
  | k + 1 => by
    have := mvTo_len tr k
    unfold mvTo
    split
    · simp; omega
    · omega

set_option maxRecDepth 100000 in
set_option maxHeartbeats 8000000 in
theorem l_Traces (g : G) (gv : Value) (ds : List Int) (dv : Value) (q : Int) (l : List (Int × Int)) (lv : Value) (ps : List Int) (pv : Value) (w : World) (hg : GrR w gv g) (hd : IntsR w dv ds) (hl : PairsR w lv l) (hp : IntsR w pv ps) :
    Calls Try.prog 10 #[gv, dv, .agg #[.int .i64 q, lv, pv]] w fun e w' => e = .returned (.bool true) ∧ Below w.heap.size w w' := by
  have hg' := hg
  have hl' := hl
  have hp' := hp
  obtain ⟨ev, rfl, a, cap, rfl, hcap, hcm, hlen, hc⟩ := hg'
  obtain ⟨la, lc, rfl, _, _, _, hlc⟩ := hl'
  obtain ⟨pa, pc, rfl, _⟩ := hp'
  obtain ⟨W1, hW1⟩ : ∃ W : World, W = (w.alloc (.cells #[.int .i64 g.n, .slice a g.es.length cap] 24)).alloc (.cells #[.int .i64 q, .slice la l.length lc, .slice pa ps.length pc] 29) := ⟨_, rfl⟩
  have hB : Below w.heap.size w W1 := by rw [hW1]; exact ((Below.refl _ _).alloc (Nat.le_refl _) _).alloc (by simp) _
  have bG : Hid (Blk W1 w.heap.size #[.int .i64 g.n, .slice a g.es.length cap] 24) := by rw [hW1]; exact (Blk.new _ _ _).alloc _
  have bX' : Blk W1 (w.heap.size + 1) #[.int .i64 q, .slice la l.length lc, .slice pa ps.length pc] 29 := by rw [hW1]; have := Blk.new (w.alloc (.cells #[.int .i64 g.n, .slice a g.es.length cap] 24)) #[.int .i64 q, .slice la l.length lc, .slice pa ps.length pc] 29; simpa using this
  have bX := hid bX'
  clear bX'
  have hG := hid (hg.below hB)
  have hD := hid (hd.below hB)
  have hL := hid (hl.below hB)
  have hP := hid (hp.below hB)
  have HB := hid hB
  have HLC := hid (hlc.below hB)
  have c0 := bG.out.cell 0
  have c1 := bG.out.cell 1
  have c2 := bX.out.cell 0
  have c3 := bX.out.cell 1
  have c4 := bX.out.cell 2
  have hsm := hid (fun s h => run_small (g := g) (q := q) (ds := ds) (l := l) s h)
  clear hg hd hl hp hB hlc
  go_enter Try.func10, Try.ntmps10
  go_wp2_with fail
  rw [← hW1]
  clear hW1
  let S : World → Prop := fun w' => w'.cell? ⟨w.heap.size, 0, none⟩ = some (.int .i64 g.n) ∧ w'.cell? ⟨w.heap.size, 1, none⟩ = some (.slice a g.es.length cap) ∧ w'.cell? ⟨w.heap.size + 1, 0, none⟩ = some (.int .i64 q) ∧ w'.cell? ⟨w.heap.size + 1, 1, none⟩ = some (.slice la l.length lc) ∧ w'.cell? ⟨w.heap.size + 1, 2, none⟩ = some (.slice pa ps.length pc)
  have hSk : Hid (∀ W, Below W1.heap.size W1 W → S W) := fun W h => ⟨(bG.out.below h).cell 0, (bG.out.below h).cell 1, (bX.out.below h).cell 0, (bX.out.below h).cell 1, (bX.out.below h).cell 2⟩
  clear c0 c1 c2 c3 c4
  (refine wp_region_text 18 [0,1,2,3,4,5,6,7,8,9,10,11,12,13,14,15,16,17] S (by kernel_rfl) (by kernel_rfl) (by intro _ _ d _ _ h; cases d <;> exact h) ?hS ?_; rotate_left; simp only [List.map_cons, List.map_nil, List.getD_cons_zero, List.getD_cons_succ, List.drop_succ_cons, List.drop_zero])
  case hS => exact hSk.out _ (Below.drew (Below.refl _ _))
  (repeat (refine' wpSeq_take rfl _ (by rfl) ?_ ?_; rotate_left; focus (intro w' hS; (try dsimp only at hS); obtain ⟨s1, s2, s3, s4, s5⟩ := hS; go_simp; (first | done | with_reducible rfl)); (try simp only [Act.put, List.setIfInBounds_toArray, List.set_cons_zero, List.set_cons_succ])))
  have k0 := hid (Below.drew (Below.refl W1.heap.size W1))
  refine wpSeq_call rfl (by rfl) (fun K hK => ?_)
  go_simp
  refine (l_small g _ ds _ q l _ ps _ _ (hG.out.below k0.out) (hD.out.below k0.out) (hL.out.below k0.out) (hP.out.below k0.out)).mono ?_
  rintro e w1 ⟨rfl, hB1⟩
  have KK := hid (up k0.out hB1)
  refine hK _ _ (hSk.out _ KK.out) ?_
  clear hK K hB1 k0
  cases hf : smallL g q ds l ps with
  | false =>
    (repeat (refine' wpSeq_take rfl _ (by rfl) ?_ ?_; rotate_left; focus (intro w' hS; (try dsimp only at hS); obtain ⟨s1, s2, s3, s4, s5⟩ := hS; go_simp; (first | done | with_reducible rfl)); (try simp only [Act.put, List.setIfInBounds_toArray, List.set_cons_zero, List.set_cons_succ])))
    (repeat (refine wpSeq_skip (by rfl) ?_; (try simp only [Act.put, List.setIfInBounds_toArray, List.set_cons_zero, List.set_cons_succ])))
    (repeat (refine' wpSeq_take rfl _ (by rfl) ?_ ?_; rotate_left; focus (intro w' hS; (try dsimp only at hS); obtain ⟨s1, s2, s3, s4, s5⟩ := hS; go_simp; (first | done | with_reducible rfl)); (try simp only [Act.put, List.setIfInBounds_toArray, List.set_cons_zero, List.set_cons_succ])))
    (repeat (refine wpSeq_skip (by rfl) ?_; (try simp only [Act.put, List.setIfInBounds_toArray, List.set_cons_zero, List.set_cons_succ])))
    refine wpSeq_nil ?_
    clear S hSk
    go_wp2_with fail
    (refine (l_awake _).mono ?_; rintro e wz ⟨rfl, hBz⟩; go_simp; go_wp2_with fail; go_ret; exact ⟨rfl, up (up HB.out KK.out) hBz⟩)
  | true =>
  have hff : cfgErr g q ds = 0 ∧ small17 ds = true := by
    unfold smallL at hf
    simp only [Bool.and_eq_true, beq_iff_eq] at hf
    exact ⟨hf.1.1.2, hf.1.2⟩
  have HFF := hid hff
  clear hf hff
  (repeat (refine' wpSeq_take rfl _ (by rfl) ?_ ?_; rotate_left; focus (intro w' hS; (try dsimp only at hS); obtain ⟨s1, s2, s3, s4, s5⟩ := hS; go_simp; (first | done | with_reducible rfl)); (try simp only [Act.put, List.setIfInBounds_toArray, List.set_cons_zero, List.set_cons_succ])))
  refine wpSeq_call rfl (by rfl) (fun K hK => ?_)
  go_simp
  refine (l_events l _ _ (hL.out.below KK.out)).mono ?_
  rintro e w2 ⟨v2, rfl, hP2, hB2⟩
  have K2 := hid (up KK.out hB2)
  refine hK _ _ (hSk.out _ K2.out) ?_
  clear hK K hB2 KK
  refine wpSeq_call rfl (by rfl) (fun K hK => ?_)
  go_simp
  refine (r21_Check g _ l _ _ (hG.out.below K2.out) hP2).mono ?_
  rintro e w3 ⟨rfl, hB3⟩
  have KK := hid (up K2.out hB3)
  refine hK _ _ (hSk.out _ KK.out) ?_
  clear hK K hB3 K2 hP2
  by_cases hsc : schErr g l = 0
  case neg =>
    have hb : (schErr g l != 0) = true := by simpa using hsc
    clear hsc
    generalize schErr g l = zz at *
    (repeat (refine' wpSeq_take rfl _ (by rfl) ?_ ?_; rotate_left; focus (intro w' hS; (try dsimp only at hS); obtain ⟨s1, s2, s3, s4, s5⟩ := hS; go_simp; (first | done | with_reducible rfl)); (try simp only [Act.put, List.setIfInBounds_toArray, List.set_cons_zero, List.set_cons_succ])))
    (repeat (refine wpSeq_skip (by rfl) ?_; (try simp only [Act.put, List.setIfInBounds_toArray, List.set_cons_zero, List.set_cons_succ])))
    (repeat (refine' wpSeq_take rfl _ (by rfl) ?_ ?_; rotate_left; focus (intro w' hS; (try dsimp only at hS); obtain ⟨s1, s2, s3, s4, s5⟩ := hS; go_simp; (first | done | with_reducible rfl)); (try simp only [Act.put, List.setIfInBounds_toArray, List.set_cons_zero, List.set_cons_succ])))
    refine wpSeq_nil ?_
    clear S hSk
    go_wp2_with fail
    (refine (l_awake _).mono ?_; rintro e wz ⟨rfl, hBz⟩; go_simp; go_wp2_with fail; go_ret; exact ⟨rfl, up (up HB.out KK.out) hBz⟩)
  have hev : evsErr g l = 0 := by
    have hk := (cfg_ok HFF.out.1).1
    unfold schErr at hsc
    rw [if_neg (by unfold Gok at hk; simpa using hk)] at hsc
    exact hsc
  have HEV := hid hev
  rw [hsc]
  clear hsc hev
  (repeat (refine' wpSeq_take rfl _ (by rfl) ?_ ?_; rotate_left; focus (intro w' hS; (try dsimp only at hS); obtain ⟨s1, s2, s3, s4, s5⟩ := hS; go_simp; (first | done | with_reducible rfl)); (try simp only [Act.put, List.setIfInBounds_toArray, List.set_cons_zero, List.set_cons_succ])))
  refine wpSeq_nil ?_
  by_cases hl60 : 60 < l.length
  · have h60 : (60 : Int) < (l.length : Int) := by omega
    clear hl60 S hSk
    go_wp2_with fail
    (refine (l_awake _).mono ?_; rintro e wz ⟨rfl, hBz⟩; go_simp; go_wp2_with fail; go_ret; exact ⟨rfl, up (up HB.out KK.out) hBz⟩)
  have h60 : ¬ (60 : Int) < (l.length : Int) := by omega
  obtain ⟨s, tr, hs1, hs2, hs3, hs4, hs5⟩ := traces_law HFF.out.1 HEV.out (by omega) HFF.out.2
  have HS1 := hid hs1
  have HS2 := hid hs2
  have HS3 := hid hs3
  have HS4 := hid hs4
  have HS5 := hid hs5
  have HL60 : Hid (l.length ≤ 60) := by show _ ≤ _; omega
  obtain ⟨hk, hq0, hqn, hdl, _, _⟩ := cfg_ok HFF.out.1
  have hn := hk.n
  have HEk := hid (evs_ok HEV.out).2
  obtain ⟨N, hN⟩ : ∃ N, N = g.n.toNat := ⟨_, rfl⟩
  have hN1 : (N : Int) ≤ g.n := by omega
  have hN2 : g.n ≤ (N : Int) := by omega
  have HN0 : Hid (0 < N) := by show _ < _; omega
  have HN12 : Hid (N ≤ 12) := by show _ ≤ _; omega
  rw [← hN] at HS4
  have hri := hid (fun (w4 w5 : World) (e : Ending) (h : RetTri 3 w4 g.n.toNat (runR g q ds l) e w5) => tri_ints hsm.out h)
  rw [HS1.out, ← hN] at hri
  have hti := hid (fun (w4 w5 : World) (e : Ending) (h : RetTrc 3 w4 (traceR g q ds l) e w5) => trc_ints (fun tr h => trace_small tr h) h)
  rw [HS2.out] at hti
  have HK := hid hk
  have HN := hid hN
  have hCk : Hid (∀ W, Below W1.heap.size W1 W → W.cell? ⟨w.heap.size, 0, none⟩ = some (.int .i64 g.n) ∧ W.cell? ⟨w.heap.size, 1, none⟩ = some (.slice a g.es.length cap) ∧ W.cell? ⟨w.heap.size + 1, 0, none⟩ = some (.int .i64 q) ∧ W.cell? ⟨w.heap.size + 1, 1, none⟩ = some (.slice la l.length lc)) := fun W h => ⟨(bG.out.below h).cell 0, (bG.out.below h).cell 1, (bX.out.below h).cell 0, (bX.out.below h).cell 1⟩
  have HdN : Hid (ds = vecOf N (dOf ds)) := by
    have h := vecOf_self ds
    rw [show ds.length = N by omega] at h
    exact h.symm
  have HdE : Hid (dErr ds g.n = 0) := by
    show _ = _
    unfold dErr
    rw [if_neg (by omega), if_neg (by simpa using hdl), if_pos (List.all_eq_true.2 fun x hx => by
      have := (cfg_ok HFF.out.1).2.2.2.2.1 x hx
      unfold inB
      simp
      omega)]
  clear hN hl60 hk hq0 hqn hdl hn hs1 hs2 hs3 hs4 hs5 hsm hSk
  clear S
  obtain ⟨g0, g1, x0, x1⟩ := hCk.out w3 KK.out
  go_wp2_with fail
  refine (p_Run g _ q ds _ l _ _ (hG.out.below KK.out) (hD.out.below KK.out) (hL.out.below KK.out)).mono ?_
  rintro e w5 hr
  rw [HS1.out, ← HN.out] at hr
  obtain ⟨hB5, va, vs, rfl, ia, is⟩ := hri.out _ _ _ hr
  have ia' : IntsR w5 va (vecOf N s.L) := ia
  have is' : IntsR w5 vs (vecOf N s.T) := is
  have HA := hid ia'
  have HSc := hid is'
  have K5 := hid (up KK.out hB5)
  rw [show triK (.inr s : Int ⊕ St) = 0 from rfl]
  obtain ⟨g0', g1', x0', x1'⟩ := hCk.out w5 K5.out
  clear hr hB5 ia is ia' is' g0 g1 x0 x1 KK hri
  go_simp
  go_wp2_with fail
  refine (p_Trace g _ q ds _ l _ _ (hG.out.below K5.out) (hD.out.below K5.out) (hL.out.below K5.out)).mono ?_
  rintro e w6 hr
  rw [HS2.out] at hr
  obtain ⟨hB6, vt, rfl, it⟩ := hti.out _ _ _ hr
  have it' : IntsR w6 vt tr := it
  have K6 := hid (up K5.out hB6)
  have HA6 := hid (HA.out.below hB6)
  have HS6 := hid (HSc.out.below hB6)
  rw [show trcK (.inr tr : Int ⊕ List Int) = 0 from rfl]
  obtain ⟨g0, g1, x0, x1⟩ := hCk.out w6 K6.out
  obtain ⟨ta, tc, rfl, htcap, htcm, htlen, htc⟩ := it'
  have HTC := hid htc
  rw [HS3.out] at htcap htlen ⊢
  have hll : ((l.length : Int) != (l.length : Int)) = false := by simp
  clear hr hB6 it htc K5 HA HSc hti g0' g1' x0' x1'
  go_simp
  go_upto_region 9 with fail
  go_wp2
  go_loopw [12, 13, 74] (fun m b i wr => ∃ k : Nat, k ≤ l.length ∧ i = .int .i64 k ∧ b = .bool (qtTo l k) ∧ wr.ownsRow w6.heap.size 3 1 m (mvTo tr k).length ((mvTo tr k).map (Value.int .i64)) ∧ Hid (Below w6.heap.size w6 wr)) (fun _ _ i _ => l.length - (intOf i).toNat)
  case atStart => exact ⟨0, Nat.zero_le _, rfl, rfl, World.ownsRow_nil _ _ _ _, Below.refl _ _⟩
  case round =>
    clear x0 x1 g0 g1
    obtain ⟨k, hkl, rfl, rfl, HO, HBr⟩ := hrel
    obtain ⟨Wr, rfl⟩ : ∃ W : World, W = wr := ⟨_, rfl⟩
    have KR := hid (K6.out.trans (HBr.out.mono K6.out.size))
    obtain ⟨g0, g1, x0, x1⟩ := hCk.out Wr KR.out
    by_cases hlt : k < l.length
    · obtain ⟨b', off', rfl, hb', hcc⟩ := HLC.out.pair (by omega)
      obtain ⟨c10, c20⟩ := hcc k hlt
      have hb1 := KR.out.size
      have hb2 : b' < Wr.heap.size := by omega
      obtain ⟨bt, ot, rfl, hbt', hct⟩ := HTC.out.int (by rw [HS3.out]; omega)
      have c3 := (HBr.out.cell (p := ⟨bt, ot + k, none⟩) hbt').trans (hct k (by rw [HS3.out]; exact hlt))
      have hbs := HBr.out.size
      have hbt : bt < Wr.heap.size := by omega
      have hx := HS5.out k hlt
      have he := (HEk.out k hlt).1
      have HMV : Hid (mvTo tr (k + 1) = if 0 ≤ tr[k]?.getD 0 then mvTo tr k ++ [tr[k]?.getD 0] else mvTo tr k) := rfl
      have HQ : Hid (qtTo l (k + 1) = (qtTo l k && ((l[k]?.getD (0, 0)).1 == 0))) := rfl
      have hml := mvTo_len tr k
      have h60 := HL60.out
      have hlt' : (k : Int) < (l.length : Int) := by omega
      have hk0 : (0 : Int) ≤ (k : Int) := by omega
      have wk : IntKind.i64.wrap ((k : Int) + 1) = (k : Int) + 1 := IntWalk.i64_in _ (by omega)
      clear hcc hct hbt' c20
      generalize l[k]?.getD (0, 0) = y at *
      generalize tr[k]?.getD 0 = x at *
      generalize qtTo l k = b at *
      obtain ⟨kd, vl⟩ := y
      dsimp only at c10 hx he HQ
      have c1 := (KR.out.cell (p := ⟨b', off' + k * 2, none⟩) hb').trans c10
      have HC1 := hid c10
      obtain ⟨hx1, hx2, hx3, hx4⟩ := hx
      have hxq : (x == q) = false := by rw [beq_eq_false_iff_ne]; exact hx2
      by_cases hx0 : 0 ≤ x
      · rw [if_pos hx0] at HMV
        have hkd : kd = 0 := by
          rcases he with h | h
          · exact h
          · have := hx1 h; omega
        subst hkd
        clear hx1 he
        have HD1 : Hid (Below w6.heap.size w6 Wr) := HBr
        clear HBr c10
        cases b with
        | true =>
          go_wp2_with (at_builtin; refine wpList_app1 Wr rfl _ _ 25 rfl 3 Try.underInts Try.infoInt w6.heap.size _ (mvTo tr k) HO x Wr.heap.size rfl rfl rfl (by omega) hbs ?_; intro v' w7 hown7 hgr7 hbk; have HB7 := hid (below_grown HD1.out hbs hgr7 hbk (Nat.le_refl _)); have KR7 := hid (K6.out.trans (HB7.out.mono K6.out.size)); obtain ⟨g0', g1', x0', x1'⟩ := hCk.out w7 KR7.out; have c1' := (KR7.out.cell (p := ⟨b', off' + k * 2, none⟩) hb').trans HC1.out; have hb3 : b' < w7.heap.size := Nat.lt_of_lt_of_le hb' KR7.out.size; have HO7 := hid hown7; clear hown7 hgr7 hbk g0 g1 x0 x1 c1 HO)
          go_roundw
          case rel => exact ⟨k + 1, by omega, by go_num, by rw [HQ.out]; rfl, by rw [HMV.out]; exact HO7.out, HB7⟩
          case measure => simp [intOf]; omega
        | false =>
          go_wp2_with (at_builtin; refine wpList_app1 Wr rfl _ _ 25 rfl 3 Try.underInts Try.infoInt w6.heap.size _ (mvTo tr k) HO x Wr.heap.size rfl rfl rfl (by omega) hbs ?_; intro v' w7 hown7 hgr7 hbk; have HB7 := hid (below_grown HD1.out hbs hgr7 hbk (Nat.le_refl _)); have KR7 := hid (K6.out.trans (HB7.out.mono K6.out.size)); obtain ⟨g0', g1', x0', x1'⟩ := hCk.out w7 KR7.out; have c1' := (KR7.out.cell (p := ⟨b', off' + k * 2, none⟩) hb').trans HC1.out; have hb3 : b' < w7.heap.size := Nat.lt_of_lt_of_le hb' KR7.out.size; have HO7 := hid hown7; clear hown7 hgr7 hbk g0 g1 x0 x1 c1 HO)
          go_roundw
          case rel => exact ⟨k + 1, by omega, by go_num, by rw [HQ.out]; rfl, by rw [HMV.out]; exact HO7.out, HB7⟩
          case measure => simp [intOf]; omega
      · rw [if_neg hx0] at HMV
        have hxe : x = -1 := by omega
        subst hxe
        have hO := hid HO
        clear HO c10 hx1 hx2 hx3 hx4
        rcases he with h | h
        all_goals
          subst h
          cases b with
          | true =>
            go_wp2
            go_roundw
            case rel => exact ⟨k + 1, by omega, by go_num, by rw [HQ.out]; rfl, by rw [HMV.out]; exact hO.out, HBr⟩
            case measure => simp [intOf]; omega
          | false =>
            go_wp2
            go_roundw
            case rel => exact ⟨k + 1, by omega, by go_num, by rw [HQ.out]; rfl, by rw [HMV.out]; exact hO.out, HBr⟩
            case measure => simp [intOf]; omega
    · have e : k = l.length := by omega
      subst e
      have hlt' : ¬ (l.length : Int) < (l.length : Int) := by omega
      have hml := mvTo_len tr l.length
      have h60 := HL60.out
      obtain ⟨ma, mc, hma⟩ := owns_slice HO
      subst hma
      have HMs := hid (owns_intsN HO rfl (by omega))
      clear HO HTC HEk HS5 HS3 HLC
      go_wp2_with fail
      refine (f_Count g _ N hN1 hN2 HK.out (mvTo tr l.length) _ Wr (hG.out.below KR.out) HMs.out HS4.out.vt (by omega)).mono ?_
      rintro e w7 ⟨bc, rfl, hO7, hB7⟩
      rw [vecOf_congr N _ s.T (fun u hu => HS4.out.cnt u hu)] at hO7
      have K7 := hid (up KR.out hB7)
      have HA7 := hid ((HA6.out.below (up HBr.out hB7)))
      have HS7 := hid ((HS6.out.below (up HBr.out hB7)))
      have HM7 := hid (HMs.out.below hB7)
      have HC7 := hid (owns_intsN hO7 (vecOf_len _ _) (by have := HN12.out; omega))
      obtain ⟨g0', g1', x0', x1'⟩ := hCk.out w7 K7.out
      clear hO7 hB7 KR HBr HA6 HS6 HMs g0 g1 x0 x1
      go_simp
      go_wp2_with fail
      refine (r18_SameScripts_eq (vecOf N s.T) vs _ w7 HS7.out HC7.out (by rw [vecOf_len]; have := HN12.out; omega)).mono ?_
      rintro e w8 ⟨rfl, hB8⟩
      have KK := hid (up K7.out hB8)
      have HA8 := hid (HA7.out.below hB8)
      have HM8 := hid (HM7.out.below hB8)
      obtain ⟨g0, g1, x0, x1⟩ := hCk.out w8 KK.out
      clear hB8 K7 HA7 HS7 HM7 HC7 g0' g1' x0' x1'
      go_simp
      cases hq : qtTo l l.length with
      | false =>
        go_wp2_with fail
        (refine (l_awake _).mono ?_; rintro e wz ⟨rfl, hBz⟩; go_simp; go_wp2_with fail; go_ret; exact ⟨rfl, up (up HB.out KK.out) hBz⟩)
      | true =>
        rw [hq] at HS4
        go_wp2_with fail
        refine (f_Play g _ N hN1 hN2 HK.out ds dv (dOf ds) HdN.out (mvTo tr l.length) _ w8 (hG.out.below KK.out) (hD.out.below KK.out) HM8.out HdE.out HS4.out.vt (by omega) (HS4.out.leg rfl) (HS4.out.bd rfl)).mono ?_
        rintro e w9 ⟨bp, cp, rfl, hO9, hB9⟩
        rw [HS4.out.pl rfl] at hO9
        have K9 := hid (up KK.out hB9)
        have HA9 := hid (HA8.out.below hB9)
        have HP9 := hid (owns_intsN hO9 (vecOf_len _ _) (by have := HN12.out; omega))
        clear hO9 hB9 KK HA8 HM8 HS4 g0 g1 x0 x1 hq
        clear hml
        generalize (mvTo tr l.length).length = ml at *
        have hmm : ((ml : Int) == (ml : Int)) = true := by simp
        go_simp
        go_wp2_with fail
        refine (r17_Same_eq (vecOf N s.L) va _ w9 HA9.out HP9.out (by rw [vecOf_len]; have := HN12.out; omega)).mono ?_
        rintro e wa ⟨rfl, hBa⟩
        have KK := hid (up K9.out hBa)
        clear hBa K9 HA9 HP9
        go_simp
        go_wp2_with fail
        (refine (l_awake _).mono ?_; rintro e wz ⟨rfl, hBz⟩; go_simp; go_wp2_with fail; go_ret; exact ⟨rfl, up (up HB.out KK.out) hBz⟩)

end Go.Proofs.Ytlhbgainpeehoaa

namespace Go.Proofs.Ytlhbgainpeehoaa.ScheduleTracesLaw
open Go.ChangeShapes Go.WideShapes Go.ChangeAt Go.RowKit
set_option linter.unusedVariables false

set_option maxRecDepth 100000 in
theorem lifted (os : Os) (started : os.Started) (H : Type) (enc : TypeId × Value → H) :
    ReturnsInHanded {} Try.checked os 10 .any (Rows.scheduleTracesSpec.pre6 enc Try.prog Try.f10 Rows.scheduleTracesRow.domain false) (Rows.scheduleTracesSpec.post enc Try.prog Try.f10 false true false false) := by
  refine returnsInHanded_of_change_sized (C := Try.checked) law_own started (by kernel_rfl) Try.func10
    (ChangeSpec.witness6 (enc := enc) (C := Try.checked) false ⟨#[], #[.agg #[.int .i64 0, .slice none 0 0], .slice none 0 0, .agg #[.int .i64 0, .slice none 0 0, .slice none 0 0]], []⟩ 8 (by kernel_rfl) (by kernel_rfl) (by kernel_rfl) (by kernel_rfl)) ?_
  intro W base args ds gs before hval0 hW hcnd hsz0 _
  have hsz : (DataW.weightsEach Try.prog (Try.f10.params.toList ++ Rows.scheduleTracesSpec.plain.varTypes Try.prog) (ds ++ gs)).all (· ≤ reachBytes) = true := hsz0
  clear hsz0
  have hval : ∀ (j : Nat) t v, Try.f10.params[j]? = some t → args[j]? = some v → Value.okWide Try.prog W .any base t v := hval0
  have hW' := hW
  obtain ⟨p, q, hA0, hV, rfl, hfz, hnd⟩ := hW
  have hA : DataW.TrodAll enc Try.prog W 0 (fun _ => true) true Try.f10.params.toList args.toList ds p := hA0
  rw [Try.params10] at hA hval hsz
  obtain ⟨v0, v1, v2, d0, d1, d2, p0, p1, p2, rfl, rfl, rfl, h0, h1, h2⟩ := trodAll_three hA
  obtain ⟨rfl, rfl⟩ := trodVars_none hV
  have k0 := h0
  have k1 := h1
  have k2 := h2
  have lt0 : ∀ x ∈ p0, x.block < W.heap.size := by obtain ⟨m, hm⟩ := k0; exact DataW.trod_lt m _ _ _ hm
  have lt1 : ∀ x ∈ p1, x.block < W.heap.size := by obtain ⟨m, hm⟩ := k1; exact DataW.trod_lt m _ _ _ hm
  have lt2 : ∀ x ∈ p2, x.block < W.heap.size := by obtain ⟨m, hm⟩ := k2; exact DataW.trod_lt m _ _ _ hm
  obtain ⟨g, w0⟩ := reads_graph (hval 0 24 v0 rfl rfl) h0 (weigh hsz 0 _ _ rfl rfl)
  obtain ⟨a1, len1, cap1, rfl⟩ := okWide_slice und_Div (hval 1 26 v1 rfl rfl)
  obtain ⟨fuel, hf⟩ := h1
  obtain ⟨dl, w1⟩ := reads_ints und_Div (by simpa [Value.cells] using hf) (weigh hsz 1 _ _ rfl rfl)
  obtain ⟨qq, lv, pv, l, ps, rfl, w2, w3⟩ := reads_plan (hval 2 29 v2 rfl rfl) h2 (weigh hsz 2 _ _ rfl rfl)
  clear hA0 hval0
  refine (l_Traces g v0 dl _ qq l lv ps pv W w0 w1 w2 w3).mono fun e W' ⟨he, bel⟩ => ?_
  subst he
  exact ⟨_, rfl, _, _, _, [], _, [], hW', trodAll_mk1 (shut_bool und_bool _), (trodAll_cons_mk (Below.trod law_laidOut (by kernel_rfl) (of_decide_eq_true (by kernel_rfl)) k0 bel lt0) (trodAll_cons_mk (Below.trod law_laidOut (by kernel_rfl) (of_decide_eq_true (by kernel_rfl)) k1 bel lt1) (trodAll_cons_mk (Below.trod law_laidOut (by kernel_rfl) (of_decide_eq_true (by kernel_rfl)) k2 bel lt2) trodAll_mk0))), rfl, bel.frame _, fun h => by cases h⟩

theorem over : Rows.scheduleTracesRow.holds Try.pinned (OpenSpec.ofChange Rows.scheduleTracesSpec) :=
  OpenClaim.holds_of_wide 10 Try.f10 rfl rfl rfl rfl rfl rfl rfl ⟨rfl, rfl, rfl, rfl, rfl⟩ rfl rfl rfl rfl rfl (by kernel_rfl) Try.func10 (by kernel_rfl)
    (of_decide_eq_true (by kernel_rfl)) (by unfold Func.isWrapper; first | (rw [if_pos (by decide +kernel)]; kernel_rfl) | (rw [if_neg (by decide +kernel)]; exact ⟨rfl, rfl⟩))
    (fun os started H enc _ => lifted os started H enc)

theorem proved : Rows.ScheduleTracesSaid := over
#print axioms proved
end Go.Proofs.Ytlhbgainpeehoaa.ScheduleTracesLaw
