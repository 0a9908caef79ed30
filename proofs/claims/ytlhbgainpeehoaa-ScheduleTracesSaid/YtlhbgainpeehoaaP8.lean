/-
  Contracts of the program's schedule: count and take of a sequential state.
-/
import Derived.Test.YtlhbgainpeehoaaP7
namespace Go.Proofs.Ytlhbgainpeehoaa
open Go.RowKit

/-- The blocks that stand already, but those with p, are kept. -/
def KeptB (w w' : World) (p : Nat → Prop) : Prop := w.heap.size ≤ w'.heap.size ∧ ∀ k, k < w.heap.size → ¬ p k → w'.heap[k]? = w.heap[k]?
theorem owns_keptB {w w' : World} {p : Nat → Prop} {base : Nat} {e : TypeId} {size : Nat} {v : Value} {n : Nat} {xs : List Value} (h : w.ownsRow base e size v n xs) (hk : KeptB w w' p) (hp : ∀ k, v.ownBlock = some k → ¬ p k) : w'.ownsRow base e size v n xs := by
  refine ⟨h.1, ?_⟩
  rcases h.2 with h0 | ⟨g, cap, cur, rfl, hb, hg, rest⟩
  · exact .inl h0
  · refine .inr ⟨g, cap, cur, rfl, hb, ?_, rest⟩
    rw [hk.2 g (Array.getElem?_eq_some_iff.1 hg).1 (hp g rfl)]; exact hg

theorem fireSt_next (g : G) (v u : Nat) (L : Nat → Int) (i : Nat) : (if i = u then fireSt g v u L u + rowsF g v u else fireSt g v u L i) = fireSt g v (u + 1) L i := by
  unfold fireSt
  by_cases h : i = u
  · subst h; simp
  · rw [if_neg h]
    congr 1
    by_cases h2 : i < u
    · rw [if_pos h2, if_pos (by omega)]
    · rw [if_neg h2, if_neg (by omega)]
theorem fireSt_skip (g : G) (v u : Nat) (L : Nat → Int) (h0 : rowsF g v u = 0) (i : Nat) : fireSt g v u L i = fireSt g v (u + 1) L i := by
  unfold fireSt
  congr 1
  by_cases h : i = u
  · subst h; rw [if_neg (by omega), if_pos (by omega), h0]
  · by_cases h2 : i < u
    · rw [if_pos h2, if_pos (by omega)]
    · rw [if_neg h2, if_neg (by omega)]

set_option maxRecDepth 100000 in
set_option maxHeartbeats 2000000 in
theorem p_count (f : Fr) (w : World) (rv : Value) (L T : Nat → Int) (hS : StI 3 f w [rv] L T) :
    Calls Try.prog 75 #[.pointer (some ⟨f.b, 0, none⟩)] w fun e w' => e = .returned (.int .i64 (waitN f.g f.q f.N L).length) ∧ KeptB w w' (fun k => k = f.b) ∧ ∃ v, StI 3 f w' [v] L T ∧
      w'.ownsRow f.W0.heap.size 3 1 v (waitN f.g f.q f.N L).length ((waitN f.g f.q f.N L).map (Value.int .i64)) := by
  obtain ⟨_, hN⟩ := hS.N12
  obtain ⟨c0, c1, c2, c3, c4, c5⟩ := hS.cells
  obtain ⟨l1, l2, l3, l4⟩ := hS.lts
  have hU := hid (p_unstable f.g f.q f.N hN L f.b f.bl f.cl f.bv f.cv w l1 l2 l4 c2 c3 c5 (fun k hk => (hS.leftAt k hk).1) (fun k hk => hS.valsAt k hk))
  have HS := hid hS
  have h6 := (hS.tailAt 0).2
  clear hS c0 c1 c2 c3 c4 c5
  have hb := hid HS.out.hb
  have hst : Hid (∀ (w1 : World) (v : Value), Below w.heap.size w w1 → w1.ownsRow w.heap.size 3 1 v (waitN f.g f.q f.N L).length ((waitN f.g f.q f.N L).map (Value.int .i64)) →
      StI 3 f (w1.setCell ⟨f.b, 6, none⟩ v) [v] L T ∧ (w1.setCell ⟨f.b, 6, none⟩ v).ownsRow f.W0.heap.size 3 1 v (waitN f.g f.q f.N L).length ((waitN f.g f.q f.N L).map (Value.int .i64)) ∧ w1.frozen? ⟨f.b, 6, none⟩ = false ∧ f.b < w1.heap.size ∧ w1.cell? ⟨f.b, 6, none⟩ = some rv ∧ Hid (KeptB w (w1.setCell ⟨f.b, 6, none⟩ v) (fun k => k = f.b))) := fun w1 v hB ho => by
    have h1 := HS.out.mono hB
    refine ⟨h1.setTail 0 v, ?_, (h1.tailAt 0).2, h1.lts.1, (h1.tailAt 0).1, ⟨by simpa using hB.size, fun k hk hne => (Below.heap_setCell w1 ⟨f.b, 6, none⟩ v k hne).trans (hB.block k hk)⟩⟩
    refine owns_base (h1.blk.owns ho (fun e => ?_) 6 v) HS.out.below.size
    have := (ho.lt _ e).1
    omega
  generalize waitN f.g f.q f.N L = wl at *
  obtain ⟨b, hbe⟩ : ∃ b, b = f.b := ⟨_, rfl⟩
  rw [← hbe] at hU hst h6 l1 ⊢
  clear hbe
  go_enter Try.func75, Try.ntmps75
  go_wp2_with (go_at_call 101; refine hU.out.mono ?_; rintro e w1 ⟨v, rfl, ho, hB1⟩; obtain ⟨s1, s2, s3, s4, s5, s6⟩ := hst.out w1 v hB1 ho; obtain ⟨av, cv, rfl⟩ := owns_slice ho; have HS1 := hid s1; have HS2 := hid s2; clear s1 s2 ho)
  go_ret
  exact ⟨rfl, s6.out, _, HS1.out, HS2.out⟩

set_option maxRecDepth 100000 in
set_option maxHeartbeats 2000000 in
theorem p_take (f : Fr) (w : World) (br lr cr x i : Nat) (L T : Nat → Int) (hS : StI 3 f w [.slice (some ⟨br, 0, none⟩) lr cr] L T) (hbr : br < w.heap.size) (hi : i < lr)
    (hx : w.cell? ⟨br, i, none⟩ = some (.int .i64 x)) (hxN : x < f.N) (hL : ∀ u, u < f.N → -10000000000 ≤ L u ∧ L u ≤ 10000000000) (hT : 0 ≤ T x ∧ T x ≤ 10000000000) :
    Calls Try.prog 76 #[.pointer (some ⟨f.b, 0, none⟩), .int .i64 i] w fun e w' => e = .returned (.tuple #[]) ∧
      StI 3 f w' [.slice (some ⟨br, 0, none⟩) lr cr] (fireL f.g x L) (fun u => if u = x then T u + 1 else T u) ∧ KeptB w w' (fun k => k = f.bl ∨ k = f.bt) := by
  have hmf : ∀ (fn : Fn) (first cap : Array Value) (w : World), (Instr.makeFunc fn first cap).run Try.prog w = .ok (.func fn first cap) w := fun _ _ _ _ => rfl
  have hvb := val_bd hS.gok x
  have hrb := fun u => rowsF_bd hS.gok x u
  have HL := hid hL
  have HRB := hid hrb
  obtain ⟨_, hN⟩ := hS.N12
  obtain ⟨l1, l2, l3, l4⟩ := hS.lts
  have c6 := (hS.tailAt 0).1
  simp only [List.getElem?_cons_zero] at c6
  have hi1 : (i : Int) < (lr : Int) := by omega
  have hi0 : (0 : Int) ≤ (i : Int) := by omega
  have HSA := hid (fun w1 (h : Below w.heap.size w w1) => hS.mono h)
  -- behind leave
  have hlv : Hid (∀ w1 : World, Below w.heap.size w w1 → Calls Try.prog 102 #[.pointer (some ⟨f.b, 0, none⟩), .int .i64 x] w1 fun e w2 => e = .returned (.tuple #[]) ∧
      StI 3 f w2 [.slice (some ⟨br, 0, none⟩) lr cr] (fireSt f.g x 0 L) (fun u => if u = x then T u + 1 else T u) ∧ (∀ b o, b < w1.heap.size → b ≠ f.bl → b ≠ f.bt → w2.cell? ⟨b, o, none⟩ = w1.cell? ⟨b, o, none⟩) ∧ w1.heap.size ≤ w2.heap.size ∧ Hid (KeptB w w2 (fun k => k = f.bl ∨ k = f.bt))) := fun w1 hB => by
    have h1 := HSA.out w1 hB
    obtain ⟨c0, c1, c2, c3, c4, c5⟩ := h1.cells
    obtain ⟨m1, m2, m3, m4⟩ := h1.lts
    have hLx := HL.out x hxN
    refine (p_leave f.N x hxN f.b f.bl f.cl f.bt f.ct f.bv f.cv (L x) (valence f.g x) (T x) w1 m1 m2 m3 m4 h1.n1 h1.n2 h1.n4 c3 c4 c5 (h1.leftAt x hxN).1 (h1.valsAt x hxN) (h1.timesAt x hxN).1 (h1.leftAt x hxN).2 (h1.timesAt x hxN).2
      (by omega) (by omega) (by omega) (by omega) (by omega) (by omega)).mono ?_
    rintro e w2 ⟨rfl, rfl⟩
    refine ⟨rfl, ((h1.drew.setL x _).setT x _).congr (fun u _ => ?_) (fun u _ => ?_), fun b o hb n1 n2 => ?_, by simp, ⟨by have := hB.size; simpa using this, fun k hk hne => ((Below.heap_setCell (w1.drew.setCell ⟨f.bl, x, none⟩ _) ⟨f.bt, x, none⟩ _ k (fun e => hne (.inr e))).trans (Below.heap_setCell w1.drew ⟨f.bl, x, none⟩ _ k (fun e => hne (.inl e)))).trans (hB.block k hk)⟩⟩
    · unfold fireSt
      by_cases e : u = x
      · subst e; simp
      · simp [e]
    · by_cases e : u = x
      · subst e; simp
      · simp [e]
    · refine World.cell?_of_block ?_
      exact ((Below.heap_setCell (w1.drew.setCell ⟨f.bl, x, none⟩ _) ⟨f.bt, x, none⟩ _ b n2).trans (Below.heap_setCell w1.drew ⟨f.bl, x, none⟩ _ b n1))
  -- the neighbours
  have hnb : Hid (∀ (w2 : World) (ba : Nat), StI 3 f w2 [.slice (some ⟨br, 0, none⟩) lr cr] (fireSt f.g x 0 L) (fun u => if u = x then T u + 1 else T u) → ba < w2.heap.size → ba ≠ f.bl → w2.cell? ⟨ba, 0, none⟩ = some (.pointer (some ⟨f.b, 0, none⟩)) →
      Calls Try.prog 103 #[.pointer (some ⟨f.b, 0, none⟩), .int .i64 x, .func (.func 104) #[] #[.pointer (some ⟨ba, 0, none⟩)]] w2 fun e w3 => e = .returned (.tuple #[]) ∧
      StI 3 f w3 [.slice (some ⟨br, 0, none⟩) lr cr] (fireL f.g x L) (fun u => if u = x then T u + 1 else T u) ∧ KeptB w2 w3 (fun k => k = f.bl)) := fun w2 ba h2 hba hne hca => by
    obtain ⟨c0, c1, _⟩ := h2.cells
    obtain ⟨m1, m2, m3, m4⟩ := h2.lts
    refine (p_neighbours f.g h2.gok f.N h2.hn x hxN f.b f.ev w2 m1 c0 c1 (h2.edges.below h2.below) 104 enter_take1 (.pointer (some ⟨ba, 0, none⟩))
      (fun br' u w' => StI 3 f w' [.slice (some ⟨br, 0, none⟩) lr cr] (fireSt f.g x u L) (fun u => if u = x then T u + 1 else T u) ∧ ba < w'.heap.size ∧ w'.cell? ⟨ba, 0, none⟩ = some (.pointer (some ⟨f.b, 0, none⟩)) ∧ br' ≠ f.bl ∧ KeptB w2 w' (fun k => k = f.bl)) ?_ ?_ ?_).mono ?_
    · intro w' br' hB h1 h3
      exact ⟨h2.mono hB, Nat.lt_of_lt_of_le hba hB.size, (hB.cell (p := ⟨ba, 0, none⟩) hba).trans hca, by omega, hB.size, fun k hk _ => hB.block k hk⟩
    · rintro br' u w' hu h0 ⟨h3, h4⟩
      have := HRB.out u
      exact ⟨h3.congr (fun i _ => fireSt_skip f.g x u L (by omega) i) (fun _ _ => rfl), h4⟩
    · rintro br' u w' hu h0 h1 h3 ⟨h4, h5, h6, h7, h8⟩
      obtain ⟨_, _, _, k3, _⟩ := h4.cells
      obtain ⟨q1, q2, q3, q4⟩ := h4.lts
      have := HRB.out u
      have hb := HL.out u hu
      have hf : -20000000000 ≤ fireSt f.g x u L u ∧ fireSt f.g x u L u ≤ 10000000000 := by
        unfold fireSt
        rw [if_neg (show ¬ u < u by omega)]
        split <;> omega
      refine (p_take1 f.N u hu f.b ba f.bl f.cl (fireSt f.g x u L u) (rowsF f.g x u) w' q1 h5 q2 h6 k3 (h4.leftAt u hu).1 (h4.leftAt u hu).2 (by omega) (by omega) (by omega) (by omega)).mono ?_
      rintro e w3 ⟨rfl, rfl⟩
      refine ⟨rfl, ⟨(h4.setL u _).congr (fun i _ => fireSt_next f.g x u L i) (fun _ _ => rfl), by simpa using h5, ?_, h7, by simpa using h8.1, fun k hk hne => (Below.heap_setCell w' ⟨f.bl, u, none⟩ _ k hne).trans (h8.2 k hk hne)⟩, by simpa using h3, Below.heap_setCell _ ⟨f.bl, u, none⟩ _ br' h7⟩
      refine Eq.trans ?_ h6
      refine World.cell?_of_block ?_
      exact Below.heap_setCell w' ⟨f.bl, u, none⟩ _ ba hne
    · rintro e w3 ⟨rfl, br', h3, _, _, _, h8⟩
      exact ⟨rfl, h3.congr (fun i hi => by unfold fireSt fireL; rw [if_pos hi]) (fun _ _ => rfl), h8⟩
  clear HSA HRB HL hrb hL hvb
  have hbe : ∃ b, b = f.b := ⟨_, rfl⟩
  have hble : ∃ bl, bl = f.bl := ⟨_, rfl⟩
  have hbte : ∃ bt, bt = f.bt := ⟨_, rfl⟩
  obtain ⟨b, hbe⟩ := hbe
  obtain ⟨bl, hble⟩ := hble
  obtain ⟨bt, hbte⟩ := hbte
  rw [← hbe, ← hble, ← hbte] at hlv
  rw [← hbe, ← hble] at hnb
  rw [← hbe] at c6 l1
  rw [← hble] at l2
  rw [← hbte] at l3
  rw [← hbe]
  have HE1 := hid hble
  have HE2 := hid hbte
  clear hbe hble hbte hS
  have hB0 : Below w.heap.size w (w.alloc (.cells #[.pointer (some ⟨b, 0, none⟩)] 76)) := (Below.refl _ _).alloc (Nat.le_refl _) _
  go_enter Try.func76, Try.ntmps76
  go_wp2_with (first
    | (go_at_call 102; refine (hlv.out _ hB0).mono ?_; rintro e w2 ⟨rfl, h2, r1, hs2, k2⟩; have h2H := hid h2; clear h2; (simp only [World.size_alloc] at hs2); have d1 := r1 w.heap.size 0 (by simp) (by omega) (by omega); (simp only [World.size_alloc] at r1); (simp at d1))
    | (go_at_call 103; refine (hnb.out w2 w.heap.size h2H.out (by omega) (by omega) d1).mono ?_; rintro e w3 ⟨rfl, h3, k3⟩; have h3H := hid h3; have k3H := hid k3; clear h3 k3))
  go_end0
  exact ⟨rfl, h3H.out, Nat.le_trans k2.out.1 k3H.out.1, fun k hk hne => (k3H.out.2 k (Nat.lt_of_lt_of_le hk k2.out.1) (fun e => hne (.inl (Eq.trans e HE1.out)))).trans (k2.out.2 k hk (fun e => hne (e.imp (fun e => e.trans HE1.out) (fun e => e.trans HE2.out))))⟩

end Go.Proofs.Ytlhbgainpeehoaa
