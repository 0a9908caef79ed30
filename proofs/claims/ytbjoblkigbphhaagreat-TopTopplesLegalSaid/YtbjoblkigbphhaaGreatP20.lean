/-
  Contract of the program's schedule: Drift.
-/
import Derived.Test.YtbjoblkigbphhaaGreatP19
namespace Go.Proofs.YtbjoblkigbphhaaGreat
open Go.RowKit

/-- Drifting: the number of the error, or the end; as the program tells it. -/
def driftP (g : G) (q : Int) (ds : List Int) (picks : List Int) : Int ⊕ Dr :=
  if givErr g q ds picks ≠ 0 then .inl (givErr g q ds picks)
  else match drGo g q g.n.toNat picks maxF 0 ⟨dOf ds, fun _ => 0, [], 0⟩ with
    | none => .inl 12
    | some s => if 1048576 < s.L q.toNat then .inl 11 else .inr s

/-- A divisor, a script and a number are handed back, or nothing and the number of an error. -/
def RetQuad (T0 : TypeId) (w : World) (N : Nat) (r : Int ⊕ Dr) (e : Ending) (w' : World) : Prop :=
  Below w.heap.size w w' ∧ match r with
  | .inl k => e = .returned (.tuple #[.slice none 0 0, .slice none 0 0, .int .i64 0, .int .i64 k])
  | .inr s => ∃ b1 c1 b2 c2, e = .returned (.tuple #[.slice (some ⟨b1, 0, none⟩) N c1, .slice (some ⟨b2, 0, none⟩) N c2, .int .i64 s.most, .int .i64 0]) ∧
      w'.ownsRow w.heap.size T0 1 (.slice (some ⟨b1, 0, none⟩) N c1) N ((vecOf N s.L).map (Value.int .i64)) ∧
      w'.ownsRow w.heap.size T0 1 (.slice (some ⟨b2, 0, none⟩) N c2) N ((vecOf N s.T).map (Value.int .i64))

set_option maxRecDepth 100000 in
set_option maxHeartbeats 4000000 in
theorem p_Drift (g : G) (gv : Value) (q : Int) (ds : List Int) (dv : Value) (picks : List Int) (pv : Value) (w : World) (hg : GrR w gv g) (hd : IntsR w dv ds) (hp : IntsR w pv picks) :
    Calls Tryz.prog 17 #[gv, .int .i64 q, dv, pv] w (RetQuad 3 w g.n.toNat (driftP g q ds picks)) := by
  have hg' := hg
  obtain ⟨ev, rfl, a, cap, rfl, hcap, hcm, hlen, hc⟩ := hg'
  have hW : Below w.heap.size w (w.alloc (.cells #[.int .i64 g.n, .slice a g.es.length cap] 24)) := by go_grown
  have hgr := hid (hg.below hW)
  have hdr := hid (hd.below hW)
  have hpr := hid (hp.below hW)
  by_cases hgv : givErr g q ds picks = 0
  case neg =>
    have hz : driftP g q ds picks = .inl (givErr g q ds picks) := by unfold driftP; rw [if_pos hgv]
    rw [hz]
    have hb : (givErr g q ds picks != 0) = true := by simpa using hgv
    clear hz hgv
    go_enter Tryz.func17, Tryz.ntmps17
    go_wp2_with (go_at_call 39; refine (p_given g _ q ds _ picks _ _ hgr.out hdr.out hpr.out).mono ?_; rintro e w1 ⟨rfl, hB1⟩; obtain ⟨r1, r2⟩ := bcell hB1)
    go_returns
    exact ⟨up hW hB1, rfl⟩
  have hb : (givErr g q ds picks != 0) = false := by simpa using hgv
  have hcf := cfg_ok (giv_ok hgv).1
  have hpk := pk_ok (giv_ok hgv).2
  obtain ⟨Q, rfl⟩ := Int.eq_ofNat_of_zero_le hcf.2.1
  obtain ⟨N, hN⟩ : ∃ N : Nat, g.n = N := ⟨g.n.toNat, by omega⟩
  have hNt : g.n.toNat = N := by omega
  have hQN : Q < N := by omega
  have hr : driftP g Q ds picks = match drGo g Q g.n.toNat picks maxF 0 ⟨dOf ds, fun _ => 0, [], 0⟩ with
      | none => .inl 12
      | some s => if 1048576 < s.L Q then .inl 11 else .inr s := by unfold driftP; rw [if_neg (by simpa using hgv), Int.toNat_natCast]
  rw [hNt] at hr ⊢
  generalize driftP g Q ds picks = z at *
  have HR := hid hr
  have hk := hid hcf.1
  have hl : ds.length = N := by have := hcf.2.2.2.1; omega
  have hbeg := hid (fun w1 (h : Below (w.alloc (.cells #[.int .i64 g.n, .slice a g.es.length cap] 24)).heap.size (w.alloc (.cells #[.int .i64 g.n, .slice a g.es.length cap] 24)) w1) =>
    p_begin g (.slice a g.es.length cap) hk.out N hN Q ds dv hl w1 (hgr.out.below h) (hdr.out.below h))
  have hst := hid (fun (t : TypeId) (w1 w2 : World) (hB : Below w.heap.size w w1) (hB1 : Below w1.heap.size w1 w2) (bl cl bt bv : Nat) ol ot ov n1 n2 n3 =>
    st_start (T0 := 3) (t := t) (W0 := w) (w := w1) (w1 := w2) (g := g) (ev := .slice a g.es.length cap) (q := Q) (N := N) (bl := bl) (cl := cl) (bt := bt) (bv := bv) (ds := ds) (tail := [.slice none 0 0, .slice none 0 0, .int .i64 0]) hk.out hN hQN hB ⟨a, cap, rfl, hcap, hcm, hlen, hc⟩ hB1 ol ot ov n1 n2 n3)
  have hok : okD N 0 ⟨dOf ds, fun _ => 0, [], 0⟩ := ⟨fun u hu => by
      have h1 : u < ds.length := by omega
      have := hcf.2.2.2.2.1 _ (List.getElem_mem h1)
      show _ ≤ dOf ds u ∧ dOf ds u ≤ _
      unfold dOf; rw [List.getElem?_eq_getElem h1]; simp only [Option.getD_some]; omega, fun u hu => by dsimp only; omega, Nat.zero_le _, fun v hv => (by cases hv), Int.le_refl _, by dsimp only; omega⟩
  have HOK := hid hok
  have HPK := hid hpk
  clear hr hok hpk hgv hcf hN hNt hc
  go_enter Tryz.func17, Tryz.ntmps17
  go_wp2_with (first
    | (go_at_call 39; refine (p_given g _ Q ds _ picks _ _ hgr.out hdr.out hpr.out).mono ?_; rintro e w1 ⟨rfl, hB1⟩; obtain ⟨r1, r2⟩ := bcell hB1)
    | (go_at_call 40; refine (hbeg.out w1 hB1).mono ?_; rintro e w2 ⟨hB2, bl, cl, bt, bv, rfl, ol, ot, ov, n1, n2, n3⟩; have HSt := hid (hst.out 92 w1 w2 (up hW hB1) hB2 bl cl bt bv ol ot ov n1 n2 n3); clear ol ot ov))
  obtain ⟨WB, hWB⟩ : ∃ W : World, W = (w2.alloc (.cells #[.int .i64 g.n, .slice a g.es.length cap, .int .i64 Q, .slice (some ⟨bl, 0, none⟩) N cl, .slice (some ⟨bt, 0, none⟩) N N, .slice (some ⟨bv, 0, none⟩) N N, .slice none 0 0, .slice none 0 0, .int .i64 0] 92)) := ⟨_, rfl⟩
  rw [← hWB]
  have HS0 : Hid (StI 3 ⟨w, w2.heap.size, bl, cl, bt, N, bv, N, N, .slice a g.es.length cap, g, Q, 92⟩ WB [.slice none 0 0, .slice none 0 0, .int .i64 0] (dOf ds) (fun _ => 0)) := by
    show StI _ _ _ _ _ _
    rw [hWB]; exact HSt.out
  clear hWB HSt r1 r2 hst hbeg hgr hdr hpr hB2 hB1
  generalize w2.heap.size = b at *
  have hch0 : Hid (Calls Tryz.prog 42 #[.iface 90 (.pointer (some ⟨b, 0, none⟩)), pv] WB.drew (RetCh (fun s w' => ∃ k, dInvR ⟨w, b, bl, cl, bt, N, bv, N, N, .slice a g.es.length cap, g, Q, 92⟩ 3 k s w') (drGo g Q N picks maxF 0 ⟨dOf ds, fun _ => 0, [], 0⟩))) :=
    dr_choose ⟨w, b, bl, cl, bt, N, bv, N, N, .slice a g.es.length cap, g, Q, 92⟩ picks pv hp HPK.out.1 HPK.out.2.2 ⟨dOf ds, fun _ => 0, [], 0⟩ WB.drew ⟨⟨_, _, HS0.out.drew, World.ownsRow_nil _ _ _ _, fun k hk => by cases hk⟩, HOK.out⟩
  have hend : Hid (∀ (d : Bool) (w3 : World) (s : Dr) (k : Nat), dInvR ⟨w, b, bl, cl, bt, N, bv, N, N, .slice a g.es.length cap, g, Q, 92⟩ 3 k s w3 →
      Calls Tryz.prog 41 #[.pointer (some ⟨b, 0, none⟩), .bool d] w3 fun e w4 => e = .returned (.int .i64 (if d then (if 1048576 < s.L Q then 11 else 0) else 12)) ∧ Below w3.heap.size w3 w4 ∧ Below w.heap.size w w4 ∧
        Hid (w4.ownsRow w.heap.size 3 1 (.slice (some ⟨bl, 0, none⟩) N cl) N ((vecOf N s.L).map (Value.int .i64))) ∧ Hid (w4.ownsRow w.heap.size 3 1 (.slice (some ⟨bt, 0, none⟩) N N) N ((vecOf N s.T).map (Value.int .i64))) ∧
        w4.cell? ⟨b, 3, none⟩ = some (.slice (some ⟨bl, 0, none⟩) N cl) ∧ w4.cell? ⟨b, 4, none⟩ = some (.slice (some ⟨bt, 0, none⟩) N N) ∧ w4.cell? ⟨b, 8, none⟩ = some (.int .i64 s.most)) := fun d w3 s k ⟨⟨rv, wv, hS', _⟩, _⟩ => by
    have hS := hS'.st
    obtain ⟨c0, c1, c2, c3, c4, c5⟩ := hS.cells
    obtain ⟨l1, l2, l3, l4⟩ := hS.lts
    refine (p_ended N Q hQN b bl cl (s.L Q) d w3 l1 l2 c2 c3 (hS.leftAt Q hQN).1).mono ?_
    rintro e w4 ⟨rfl, hB⟩
    have h4 := hS.mono hB
    obtain ⟨_, _, _, k3, k4, _⟩ := h4.cells
    exact ⟨rfl, hB, h4.below, h4.left, h4.times, k3, k4, (h4.tailAt 2).1⟩
  clear HS0 HOK HPK hp
  generalize drGo g Q N picks maxF 0 ⟨dOf ds, fun _ => 0, [], 0⟩ = r at *
  let S : World → Prop := fun _ => True
  cases r with
  | none =>
    (refine wp_region_text 8 [0,1,2,3,4,5,6,7] S (by kernel_rfl) (by kernel_rfl) (by intro _ _ d _ _ h; cases d <;> exact h) ?hS ?_; rotate_left; simp only [List.map_cons, List.map_nil, List.getD_cons_zero, List.getD_cons_succ, List.drop_succ_cons, List.drop_zero])
    case hS => trivial
    (repeat ((refine' wpSeq_take rfl _ (by rfl) ?_ ?_; rotate_left; focus (intro w' hS; (try dsimp only at hS); skip; go_simp; (first | done | with_reducible rfl)); (try simp only [Act.put, List.setIfInBounds_toArray, List.set_cons_zero, List.set_cons_succ])); (try simp only [Act.put, List.setIfInBounds_toArray, List.set_cons_zero, List.set_cons_succ])))
    (refine wpSeq_call rfl (by rfl) (fun K hK => ?_); go_simp; refine (hch0.out).mono ?_; rintro e w3 ⟨rfl, s, k, hI3⟩; refine hK _ _ (trivial) ?_; clear hK K; (try simp only [Act.put, List.setIfInBounds_toArray, List.set_cons_zero, List.set_cons_succ]))
    (refine wpSeq_call rfl (by rfl) (fun K hK => ?_); go_simp; refine (hend.out false w3 s k hI3).mono ?_; rintro e w4 ⟨rfl, hB4, hBw, o1, o2, k3, k4, k8⟩; refine hK _ _ (trivial) ?_; clear hK K; (try simp only [Act.put, List.setIfInBounds_toArray, List.set_cons_zero, List.set_cons_succ]))
    refine wpSeq_nil ?_
    clear S
    go_wp2
    go_returns
    rw [HR.out]
    exact ⟨hBw, rfl⟩
  | some s =>
    (refine wp_region_text 8 [0,1,2,3,4,5,6,7] S (by kernel_rfl) (by kernel_rfl) (by intro _ _ d _ _ h; cases d <;> exact h) ?hS ?_; rotate_left; simp only [List.map_cons, List.map_nil, List.getD_cons_zero, List.getD_cons_succ, List.drop_succ_cons, List.drop_zero])
    case hS => trivial
    (repeat ((refine' wpSeq_take rfl _ (by rfl) ?_ ?_; rotate_left; focus (intro w' hS; (try dsimp only at hS); skip; go_simp; (first | done | with_reducible rfl)); (try simp only [Act.put, List.setIfInBounds_toArray, List.set_cons_zero, List.set_cons_succ])); (try simp only [Act.put, List.setIfInBounds_toArray, List.set_cons_zero, List.set_cons_succ])))
    (refine wpSeq_call rfl (by rfl) (fun K hK => ?_); go_simp; refine (hch0.out).mono ?_; rintro e w3 ⟨rfl, k, hI3⟩; refine hK _ _ (trivial) ?_; clear hK K; (try simp only [Act.put, List.setIfInBounds_toArray, List.set_cons_zero, List.set_cons_succ]))
    (refine wpSeq_call rfl (by rfl) (fun K hK => ?_); go_simp; refine (hend.out true w3 s k hI3).mono ?_; rintro e w4 ⟨rfl, hB4, hBw, o1, o2, k3, k4, k8⟩; refine hK _ _ (trivial) ?_; clear hK K)
    refine wpSeq_nil ?_
    clear S
    have hr2 := HR.out
    dsimp only at hr2
    clear HR
    by_cases hlg : 1048576 < s.L Q
    · rw [if_pos hlg] at hr2
      subst hr2
      simp only [hlg, if_true]
      go_wp2
      go_returns
      exact ⟨hBw, rfl⟩
    · rw [if_neg hlg] at hr2
      subst hr2
      simp only [hlg, if_true, if_false]
      go_wp2
      go_quiet (fail)
      go_wp2
      go_returns
      exact ⟨below_dN hBw _, bl, cl, bt, N, rfl, owns_dN o1.out _, owns_dN o2.out _⟩

end Go.Proofs.YtbjoblkigbphhaaGreat
