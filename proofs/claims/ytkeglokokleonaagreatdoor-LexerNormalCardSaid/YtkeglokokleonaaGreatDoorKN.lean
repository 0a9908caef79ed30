/-
  LexerNormal: the walks of lexer.Normal, of the reference's Normal, and of the law.
-/
import Derived.Test.YtkeglokokleonaaGreatDoorKG
import Derived.Test.YtkeglokokleonaaGreatDoorK21
namespace Go.Proofs.YtkeglokokleonaaGreatDoor
open Go.RowKit

/-- The normal text of a text, or the offset and the error. -/
def normR (s : List UInt8) : List UInt8 × Int × Int := match scanR s with | .inl x => ([], x.1, x.2) | .inr l => ((joinR l).2, 0, (joinR l).1)

def NormPost (f : Nat) (s : List UInt8) : Prop := ∀ w : World, Calls Tryz.prog f #[.string (str s)] w fun e w' => e = .returned (.tuple #[.string (str (normR s).1), .int .i64 (normR s).2.1, .int .i64 (normR s).2.2]) ∧ Below w.heap.size w w'

set_option maxRecDepth 100000 in
set_option maxHeartbeats 4000000 in
theorem p_Normal (s : List UInt8) : NormPost 5 s := by
  intro w
  have hG := hid (got_p s w)
  cases hz : scanR s with
  | inl x =>
    have hx := scanR_err hz
    have hn : normR s = ([], x.1, x.2) := by unfold normR; rw [hz]
    rw [hn]
    rw [hz] at hG
    obtain ⟨x1, x2⟩ := x
    have hx' : (x2 != 0) = true := by simpa using hx
    clear hx hz hn
    go_enter Tryz.func5, Tryz.ntmps5
    go_wp2_with fail
    refine hG.out.mono ?_
    rintro e w1 ⟨v, rfl, _, hB⟩
    show _
    simp only [Scn.at', Scn.no]
    go_simp
    go_wp2_with fail
    go_ret3
    exact ⟨rfl, hB⟩
  | inr l =>
    have hn : normR s = ((joinR l).2, 0, (joinR l).1) := by unfold normR; rw [hz]
    rw [hn]
    rw [hz] at hG
    have hJ := hid (fun v w1 (hv : ToksR w1 v l) => p_Join l v w1 hv (fun _ k => by have := scanR_texts hz k; omega))
    generalize (joinR l).2 = js at *
    generalize (joinR l).1 = er at *
    clear hz hn
    go_enter Tryz.func5, Tryz.ntmps5
    go_wp2_with fail
    refine hG.out.mono ?_
    rintro e w1 ⟨v, rfl, hv, hB⟩
    simp only [Scn.at', Scn.no]
    go_simp
    go_wp2_with fail
    refine (hJ.out _ _ hv).mono ?_
    rintro e w2 ⟨rfl, hB2⟩
    go_simp
    go_wp2_with fail
    go_ret3
    exact ⟨rfl, up hB hB2⟩

set_option maxRecDepth 100000 in
set_option maxHeartbeats 4000000 in
theorem r_Normal (s : List UInt8) : NormPost 6 s := by
  intro w
  have hG := hid (got_r s w)
  cases hz : scanR s with
  | inl x =>
    have hx := scanR_err hz
    have hn : normR s = ([], x.1, x.2) := by unfold normR; rw [hz]
    rw [hn]
    rw [hz] at hG
    obtain ⟨x1, x2⟩ := x
    have hx' : (x2 != 0) = true := by simpa using hx
    clear hx hz hn
    go_enter Tryz.func6, Tryz.ntmps6
    go_wp2_with fail
    refine hG.out.mono ?_
    rintro e w1 ⟨v, rfl, _, hB⟩
    simp only [Scn.at', Scn.no]
    go_simp
    go_wp2_with fail
    go_ret3
    exact ⟨rfl, hB⟩
  | inr l =>
    have hn : normR s = ((joinR l).2, 0, (joinR l).1) := by unfold normR; rw [hz]
    rw [hn]
    rw [hz] at hG
    have hJ := hid (fun v w1 (hv : ToksR w1 v l) => r_Join l v w1 hv (fun _ k => by have := scanR_texts hz k; omega))
    generalize (joinR l).2 = js at *
    generalize (joinR l).1 = er at *
    clear hz hn
    go_enter Tryz.func6, Tryz.ntmps6
    go_wp2_with fail
    refine hG.out.mono ?_
    rintro e w1 ⟨v, rfl, hv, hB⟩
    simp only [Scn.at', Scn.no]
    go_simp
    go_wp2_with fail
    refine (hJ.out _ _ hv).mono ?_
    rintro e w2 ⟨rfl, hB2⟩
    go_simp
    go_wp2_with fail
    go_ret3
    exact ⟨rfl, up hB hB2⟩

/-- A normal text is its own one. -/
theorem norm_own (s : List UInt8) (h : (normR s).2.2 = 0) : normR (normR s).1 = ((normR s).1, 0, 0) := by
  unfold normR at h ⊢
  cases hz : scanR s with
  | inl x => rw [hz] at h; exact absurd h (scanR_err hz)
  | inr l =>
    rw [hz] at h
    simp only at h ⊢
    obtain ⟨l0, q, rfl, ho⟩ := scanR_toks hz
    have hj : (joinR (l0 ++ [⟨3, [], q⟩])).2 = joined false (l0 ++ [⟨3, [], q⟩]) ∧ (joined false (l0 ++ [(⟨3, [], q⟩ : Tok)])).length ≤ 4096 ∧ (l0 ++ [(⟨3, [], q⟩ : Tok)]).length ≤ 4097 := by
      unfold joinR at h ⊢
      split at h
      · exact absurd h (by decide)
      · rw [if_neg ‹_›]
        split at h
        · exact absurd h ‹_›
        · rw [if_neg ‹_›]
          split at h
          · exact absurd h (by decide)
          · rw [if_neg ‹_›]
            split at h
            · exact absurd h (by decide)
            · rw [if_neg ‹_›]; exact ⟨rfl, by omega, by omega⟩
    rw [hj.1]
    obtain ⟨l', h1, h2⟩ := scan_join l0 q ho
    rw [scanR_back hj.2.1 h1]
    simp only
    have hjb := joined_bare false _ _ h2
    obtain ⟨l0', q', e1, ho'⟩ := scan_ok _ _ 0 l' (Nat.lt_succ_self _) h1
    have hlen : l'.length = (l0 ++ [(⟨3, [], q⟩ : Tok)]).length := by
      have := congrArg List.length h2; simpa using this
    have hform : firstNZ (formAt l') 0 l'.length = 0 := by rw [e1]; exact form_ok l0' q' ho'
    have hlast : l'.getLast?.map Tok.kind = some 3 := by rw [e1]; simp
    have : joinR l' = (0, joined false (l0 ++ [⟨3, [], q⟩])) := by
      unfold joinR
      rw [if_neg (by omega), hform, hlast, hjb]
      simp only [ne_eq, not_true_eq_false, if_false]
      rw [if_neg (by omega)]
    rw [this]

set_option maxRecDepth 100000 in
set_option maxHeartbeats 4000000 in
theorem l_Normal (s : List UInt8) (w : World) : Calls Tryz.prog 3 #[.string (str s)] w fun e w' => e = .returned (.bool true) ∧ Below w.heap.size w w' := by
  have hD := hid l_awake
  by_cases q : (700 : Int) < ((str s).size : Int)
  · go_enter Tryz.func3, Tryz.ntmps3
    go_wp2_with fail
    refine (hD.out _).mono ?_
    rintro e w1 ⟨rfl, hB⟩
    go_simp
    go_wp2_with fail
    go_ret
    exact ⟨rfl, hB⟩
  · have hP := hid (p_Normal s)
    have hR := hid (r_Normal s)
    have hO := hid (p_Normal (normR s).1)
    have hN := hid (norm_own s)
    have hON : Hid ((normR s).2.2 = 0 → ∀ w : World, Calls Tryz.prog 5 #[.string (str (normR s).1)] w fun e w' => e = .returned (.tuple #[.string (str (normR s).1), .int .i64 0, .int .i64 0]) ∧ Below w.heap.size w w') := fun h w => by
      have := hO.out w
      rw [hN.out h] at this
      exact this
    have hP' : Hid (∀ w : World, Calls Tryz.prog 5 #[.string (str s)] w fun e w' => e = .returned (.tuple #[.string (str (normR s).1), .int .i64 (normR s).2.1, .int .i64 (normR s).2.2]) ∧ Below w.heap.size w w') := hP.out
    have hR' : Hid (∀ w : World, Calls Tryz.prog 6 #[.string (str s)] w fun e w' => e = .returned (.tuple #[.string (str (normR s).1), .int .i64 (normR s).2.1, .int .i64 (normR s).2.2]) ∧ Below w.heap.size w w') := hR.out
    clear hP hR hO hN
    generalize (normR s).1 = a at *
    generalize (normR s).2.1 = p at *
    generalize (normR s).2.2 = er at *
    go_enter Tryz.func3, Tryz.ntmps3
    go_wp2_with fail
    refine (hP'.out _).mono ?_
    rintro e w1 ⟨rfl, hB⟩
    go_simp
    go_wp2_with fail
    refine (hR'.out _).mono ?_
    rintro e w2 ⟨rfl, hB2⟩
    have hB := up hB hB2
    clear hB2
    by_cases her : er = 0
    · subst her
      have hO := hid (hON.out rfl)
      clear hON
      go_simp
      go_wp2_with fail
      refine (hO.out _).mono ?_
      rintro e w3 ⟨rfl, hB3⟩
      have hB := up hB hB3
      clear hB3
      go_simp
      go_wp2_with fail
      refine (hD.out _).mono ?_
      rintro e w4 ⟨rfl, hB4⟩
      have hB := up hB hB4
      clear hB4
      go_simp
      go_wp2_with fail
      go_ret
      exact ⟨rfl, hB⟩
    · have her' : (er != 0) = true := by simpa using her
      clear hON
      go_simp
      go_wp2_with fail
      refine (hD.out _).mono ?_
      rintro e w3 ⟨rfl, hB3⟩
      have hB := up hB hB3
      clear hB3
      go_simp
      go_wp2_with fail
      go_ret
      exact ⟨rfl, hB⟩

end Go.Proofs.YtkeglokokleonaaGreatDoor
