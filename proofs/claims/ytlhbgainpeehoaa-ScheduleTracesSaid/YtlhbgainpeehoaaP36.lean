/-
  Contracts of stabilize: given, Stabilize.
-/
import Derived.Test.YtlhbgainpeehoaaP35
namespace Go.Proofs.Ytlhbgainpeehoaa
set_option linter.unusedVariables false
open Go.RowKit

theorem parts_con {g : G} (h : Gok g) (hp : parts g = 1) : ∀ k, k < g.n.toNat → Con g 0 k := by
  intro k
  induction k using Nat.strongRecOn with
  | ind k ih =>
    intro hk
    by_cases e : k = 0
    · subst e; exact Con.refl g 0
    · by_cases hf : forestTo g g.es.length k = k
      · exfalso
        have h0 : forestTo g g.es.length 0 = 0 := (forest_least h 0).2 (fun ⟨j, hj, _⟩ => by omega)
        have h1 : cr (forestTo g g.es.length) 1 = 1 := by simp [cr, h0]
        have h2 : cr (forestTo g g.es.length) (k + 1) = cr (forestTo g g.es.length) k + 1 := by simp [cr, hf]
        have h3 := cr_mono (forestTo g g.es.length) 1 k (by omega)
        have h4 := cr_mono (forestTo g g.es.length) (k + 1) g.n.toNat (by omega)
        rw [parts_forest h] at hp
        omega
      · have h5 : ∃ j, j < k ∧ Con g j k := Classical.byContradiction fun hn => hf ((forest_least h k).2 hn)
        obtain ⟨j, hj, hc⟩ := h5
        exact (ih j hj (by omega)).trans hc
theorem sumTo_ge (f : Nat → Int) (h : ∀ k, 0 ≤ f k) : ∀ n k, k < n → f k ≤ sumTo f n
  | 0, k, hk => by omega
  | n + 1, k, hk => by
    show f k ≤ sumTo f n + f n
    have h0 : ∀ m, 0 ≤ sumTo f m := fun m => by
      induction m with
      | zero => exact Int.le_refl _
      | succ m ihm => show 0 ≤ sumTo f m + f m; have := h m; omega
    by_cases e : k = n
    · subst e; have := h0 k; omega
    · have := sumTo_ge f h n k (by omega)
      have := h n
      omega
theorem val_pos {g : G} (h : Gok g) (hp : parts g = 1) {q v : Nat} (hq : q < g.n.toNat) (hv : v < g.n.toNat) (hne : v ≠ q) : 0 < valence g v := by
  have hc : Con g q v := (parts_con h hp q hq).symm.trans (parts_con h hp v hv)
  refine Classical.byContradiction fun hn => ?_
  refine hc (fun x => x ≠ v) (fun e => hne e.symm) (fun x y hx ha e => ?_) rfl
  subst e
  obtain ⟨hxn, _, hb⟩ := ha
  have h1 := sumTo_ge (valTerm g y) (fun k => (h.valTerm_bd y k).1) g.n.toNat x hxn
  have h2 : valTerm g y x = btw g y x := by unfold valTerm; rw [if_pos (by omega)]; exact btw_comm g x y
  rw [h2, btw_comm] at h1
  exact hn (by unfold valence; omega)

theorem cfg_con {g : G} {q : Int} {ds : List Int} (h : cfgErr g q ds = 0) : parts g = 1 := by
  unfold cfgErr at h
  by_cases h1 : rootedErr g q = 0
  · have hk := (rooted_ok h1).1
    unfold rootedErr at h1
    unfold Gok at hk
    simp only [hk] at h1
    by_cases hp : parts g = 1
    · exact hp
    · simp [hp] at h1
  · rw [if_pos (by simpa using h1)] at h
    exact absurd h h1

/-- What 'given' hands back. -/
def RetGiven (w : World) (g : G) (q : Int) (ds : List Int) (e : Ending) (w' : World) : Prop :=
  Below w.heap.size w w' ∧ ((cfgErr g q ds ≠ 0 ∧ e = .returned (.tuple #[.pointer none, .int .i64 (cfgErr g q ds)])) ∨
    (cfgErr g q ds = 0 ∧ ∃ (f : PFr) (wt : Nat → Bool), e = .returned (.tuple #[.pointer (some ⟨f.b, 0, none⟩), .int .i64 0]) ∧ f.N = g.n.toNat ∧ (f.q : Int) = q ∧ f.g = g ∧ Below w.heap.size w f.W0 ∧ PiI f w' (dOf ds) (fun _ => 0) 0 wt ∧ WtOk f (dOf ds) wt))

set_option maxRecDepth 100000 in
set_option maxHeartbeats 4000000 in
theorem p_pgiven (g : G) (gv : Value) (q : Int) (ds : List Int) (dv : Value) (w : World) (hg : GrR w gv g) (hd : IntsR w dv ds) :
    Calls Try.prog 62 #[gv, .int .i64 q, dv] w (RetGiven w g q ds) := by
  have hg' := hg
  obtain ⟨ev, rfl, a, cap, rfl, _⟩ := hg'
  have hW : Below w.heap.size w (w.alloc (.cells #[.int .i64 g.n, .slice a g.es.length cap] 24)) := by go_grown
  have hck := hid (p_stCheck g _ q ds _ _ (hg.below hW) (hd.below hW))
  by_cases hc : cfgErr g q ds = 0
  case neg =>
    have HC := hid hc
    have hb : (cfgErr g q ds != 0) = true := by simpa using hc
    unfold RetGiven
    generalize cfgErr g q ds = z at *
    clear hc
    go_enter Try.func62, Try.ntmps62
    go_wp2_with (go_at_call 74; refine hck.out.mono ?_; rintro e w1 ⟨rfl, hB1⟩)
    go_ret2
    exact ⟨up hW hB1, .inl ⟨HC.out, rfl⟩⟩
  have hc' := cfg_ok hc
  obtain ⟨hk, hq0, hqn, hdl, _, _⟩ := hc'
  have hn := hk.n
  obtain ⟨Q, rfl⟩ := Int.eq_ofNat_of_zero_le hq0
  have hdN : ds = vecOf g.n.toNat (dOf ds) := by
    have := vecOf_self ds
    rw [show ds.length = g.n.toNat by omega] at this
    exact this.symm
  have hpl := hid (fun (w1 : World) (h : Below w.heap.size w w1) => p_pileOf g _ g.n.toNat (by omega) (by omega) Q (by omega) (dOf ds) _ w1 (hg.below h) hk (by rw [← hdN]; exact hd.below h))
  have HC := hid hc
  rw [hc] at hck
  clear hc hdN hdl
  go_enter Try.func62, Try.ntmps62
  go_wp2_with fail
  refine hck.out.mono ?_
  rintro e w1 ⟨rfl, hB1⟩
  obtain ⟨r1, r2⟩ := bcell hB1
  have k1 := hid (up hW hB1)
  have u1 := (Blk.new w #[.int .i64 g.n, .slice a g.es.length cap] 24).below hB1
  have u2 := u1.cell 0
  have u3 := u1.cell 1
  simp only [List.getElem?_toArray, List.getElem?_cons_zero, List.getElem?_cons_succ] at u2 u3
  clear r1 r2 u1 hB1
  go_simp
  go_wp2_with fail
  refine (hpl.out w1 k1.out).mono ?_
  rintro e w2 ⟨f, wt, rfl, h1, h2, h3, h4, h5, h6⟩
  have H := hid (And.intro h1 (And.intro h2 (And.intro h3 (And.intro h4 (And.intro h5 h6)))))
  clear h1 h2 h3 h4 h5 h6
  go_simp
  go_wp2
  go_ret2
  obtain ⟨h1, h2, h3, h4, h5, h6⟩ := H.out
  have k2 := k1.out.trans (h4.mono k1.out.size)
  exact ⟨k2.trans (h5.below.mono k2.size), .inr ⟨HC.out, f, wt, rfl, h1, by rw [h2], h3, k2, h5, h6⟩⟩

/-- Stabilizing: the number of the error, or the end. -/
def stabR (g : G) (q : Int) (ds : List Int) : Int ⊕ St :=
  if cfgErr g q ds ≠ 0 then .inl (cfgErr g q ds)
  else match stGo g q g.n.toNat (maxF + 1) 0 ⟨dOf ds, fun _ => 0⟩ with
    | none => .inl 12
    | some s => if 1048576 < s.L q.toNat then .inl 11 else .inr s

/-- From what 'given' has handed back, settled. -/
theorem settled_at {g : G} {q : Int} {ds : List Int} (hc : cfgErr g q ds = 0) (f : PFr) (wt : Nat → Bool) (w1 : World) (hN : f.N = g.n.toNat) (hq : (f.q : Int) = q) (hgf : f.g = g) (hP : PiI f w1 (dOf ds) (fun _ => 0) 0 wt) (hW : WtOk f (dOf ds) wt) :
    Calls Try.prog 63 #[.pointer (some ⟨f.b, 0, none⟩)] w1 (RetStd f (stGo g q g.n.toNat (maxF + 1) 0 ⟨dOf ds, fun _ => 0⟩) w1) := by
  obtain ⟨hk, hq0, hqn, hdl, _, _⟩ := cfg_ok hc
  have hn := hk.n
  have hok := cfg_bd hc f.N (by omega)
  have z : sumTo (fun _ => (0 : Int)) f.N = 0 := by
    have h1 : sumTo (fun _ => (0 : Int)) f.N = sumTo (fun w => if w = f.N then (0 : Int) else 0) f.N := sumTo_congr _ _ _ fun k _ => by simp
    rw [h1, sumTo_one]; simp
  have h := p_settled f w1 ⟨dOf ds, fun _ => 0⟩ 0 wt hP hW hok z.symm (Nat.zero_le _) (fun v hv hne => by
    rw [hgf]
    exact val_pos hk (cfg_con hc) (q := f.q) (by omega) (by omega) hne) (by omega)
  rw [hgf, hq, hN] at h
  exact h

set_option maxRecDepth 100000 in
set_option maxHeartbeats 4000000 in
theorem p_Stabilize (g : G) (gv : Value) (q : Int) (ds : List Int) (dv : Value) (w : World) (hg : GrR w gv g) (hd : IntsR w dv ds) :
    Calls Try.prog 31 #[gv, .int .i64 q, dv] w (RetTri 3 w g.n.toNat (stabR g q ds)) := by
  have hg' := hg
  obtain ⟨ev, rfl, a, cap, rfl, _⟩ := hg'
  have hW : Below w.heap.size w (w.alloc (.cells #[.int .i64 g.n, .slice a g.es.length cap] 24)) := by go_grown
  have hgv := hid (p_pgiven g _ q ds _ _ (hg.below hW) (hd.below hW))
  by_cases hc : cfgErr g q ds = 0
  case neg =>
    have hz : stabR g q ds = .inl (cfgErr g q ds) := by unfold stabR; rw [if_pos hc]
    rw [hz]
    have hb : (cfgErr g q ds != 0) = true := by simpa using hc
    have HC := hid hc
    clear hc hz
    go_enter Try.func31, Try.ntmps31
    go_wp2_with fail
    refine hgv.out.mono ?_
    rintro e w1 ⟨hB1, ⟨_, rfl⟩ | ⟨h0, _⟩⟩
    · clear HC hgv
      generalize cfgErr g q ds = z at *
      go_simp
      go_wp2
      go_ret3
      exact ⟨up hW hB1, rfl⟩
    · exact absurd h0 HC.out
  have HC := hid hc
  have hqn := (cfg_ok hc).2
  have hst := hid (fun (f : PFr) (wt : Nat → Bool) (w1 : World) hN hq hgf hP hW' => settled_at hc f wt w1 hN hq hgf hP hW')
  have hz : stabR g q ds = match stGo g q g.n.toNat (maxF + 1) 0 ⟨dOf ds, fun _ => 0⟩ with
    | none => .inl 12
    | some s => if 1048576 < s.L q.toNat then .inl 11 else .inr s := by unfold stabR; rw [if_neg (by simpa using hc)]
  rw [hz]
  have HQ : Hid (∀ f : PFr, (f.q : Int) = q → f.q = q.toNat) := fun f h => by omega
  clear hc hz hqn
  generalize stGo g q g.n.toNat (maxF + 1) 0 ⟨dOf ds, fun _ => 0⟩ = z at *
  generalize hr : (match z with
    | none => (.inl 12 : Int ⊕ St)
    | some s => if 1048576 < s.L q.toNat then .inl 11 else .inr s) = r
  have HR := hid hr
  clear hr
  go_enter Try.func31, Try.ntmps31
  go_wp2_with fail
  refine hgv.out.mono ?_
  rintro e w1 ⟨hB1, ⟨h0, _⟩ | ⟨_, f, wt, rfl, h1, h2, h3, h4, h5, h6⟩⟩
  · exact absurd HC.out h0
  have hs := hid (hst.out f wt w1 h1 h2 h3 h5 h6)
  have H1 := hid h1
  have H2 := hid (HQ.out f h2)
  have HB1 := hid (up hW hB1)
  have HB4 := hid (up hW h4)
  have hlw := h5.below.size
  clear hgv hst h1 h2 h3 h4 h5 h6 hB1 hg hd hW HQ hlw
  go_simp
  go_wp2_with fail
  refine hs.out.mono ?_
  rintro e w2 ⟨s, tot, wt2, hP, hK, hS, ⟨rfl, rfl⟩ | ⟨rfl, rfl⟩⟩
  · have k2 := hid (HB4.out.trans (hP.below.mono HB4.out.size))
    have hl := hid (owns_base hP.left HB4.out.size)
    have hf := hid (owns_base hP.fired HB4.out.size)
    obtain ⟨p0, _, _, _, p4, _⟩ := hP.cells
    have l0 := hP.blk.lt
    have HN := H1.out
    rw [HN] at hl hf p0 p4
    have HQ := H2.out
    rw [HQ]
    clear hP hK hS hs HN HQ
    by_cases hx : 1048576 < s.L q.toNat
    · have e : (if 1048576 < s.L q.toNat then (11 : Int) else 0) = 11 := if_pos hx
      have e2 : r = .inl 11 := by rw [← HR.out]; exact if_pos hx
      clear HR
      subst e2
      rw [e]
      clear e hx p0 p4
      go_simp
      go_wp2
      go_ret3
      exact ⟨k2.out, rfl⟩
    · have e : (if 1048576 < s.L q.toNat then (11 : Int) else 0) = 0 := if_neg hx
      have e2 : r = .inr s := by rw [← HR.out]; exact if_neg hx
      clear HR
      subst e2
      rw [e]
      clear e hx
      go_simp
      go_wp2
      go_quiet (fail)
      go_wp2
      go_ret3
      exact ⟨below_dN k2.out _, _, _, _, _, rfl, owns_dN hl.out _, owns_dN hf.out _⟩
  · have k2 := hid (HB4.out.trans (hP.below.mono HB4.out.size))
    have e2 : r = .inl 12 := HR.out.symm
    clear HR
    subst e2
    clear hP hK hS hs
    go_simp
    go_wp2
    go_ret3
    exact ⟨k2.out, rfl⟩

end Go.Proofs.Ytlhbgainpeehoaa
