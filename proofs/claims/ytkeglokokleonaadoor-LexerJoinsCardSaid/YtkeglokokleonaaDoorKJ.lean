/-
  LexerJoins: the law's walk.
-/
import Derived.Test.YtkeglokokleonaaDoorKR
import Derived.Test.YtkeglokokleonaaDoorK20
import Derived.Test.YtkeglokokleonaaDoorK21
namespace Go.Proofs.YtkeglokokleonaaDoor
open Go.RowKit

set_option maxRecDepth 100000 in
set_option maxHeartbeats 4000000 in
theorem l_Joins (l : List Tok) (v : Value) (w : World) (hv : ToksR w v l) : Calls Tryd.prog 4 #[v] w fun e w' => e = .returned (.bool true) ∧ Below w.heap.size w w' := by
  have hF := hid (r_Few l v w hv)
  have hD := hid l_awake
  have hJ : FewT l → Hid (∀ w1, Below w.heap.size w w1 → Calls Tryd.prog 14 #[v] w1 fun e w' => e = .returned (.tuple #[.string (str (joinR l).2), .int .i64 (joinR l).1]) ∧ Below w1.heap.size w1 w') := fun hf w1 hB =>
    p_Join l v w1 (hv.below hB) (fun h k => by have := (hf h).2 k; omega)
  have hR : FewT l → Hid (∀ w1, Below w.heap.size w w1 → Calls Tryd.prog 15 #[v] w1 fun e w' => e = .returned (.tuple #[.string (str (joinR l).2), .int .i64 (joinR l).1]) ∧ Below w1.heap.size w1 w') := fun hf w1 hB =>
    r_Join l v w1 (hv.below hB) (fun h k => by have := (hf h).2 k; omega)
  have hv' := hid hv
  clear hv
  generalize (joinR l).2 = s at *
  generalize (joinR l).1 = n at *
  go_enter Tryd.func4, Tryd.ntmps4
  go_wp2_with fail
  refine hF.out.mono ?_
  rintro e w1 ⟨b, rfl, hb, rfl⟩
  cases b with
  | false =>
    clear hJ hR hb
    go_simp
    go_wp2_with fail
    refine (hD.out _).mono ?_
    rintro e w2 ⟨rfl, hB⟩
    go_simp
    go_wp2_with fail
    go_ret
    exact ⟨rfl, hB⟩
  | true =>
    have hf := hb rfl
    have hJ := hJ hf
    have hR := hR hf
    have HF := hid hf
    clear hb hf
    go_simp
    go_wp2_with fail
    refine (hJ.out _ (Below.refl _ _)).mono ?_
    rintro e w2 ⟨rfl, hB⟩
    go_simp
    go_wp2_with fail
    refine (hR.out _ hB).mono ?_
    rintro e w3 ⟨rfl, hB3⟩
    have hB := up hB hB3
    clear hB3
    go_simp
    go_wp2_with fail
    refine (hD.out _).mono ?_
    rintro e w4 ⟨rfl, hB4⟩
    have hB := up hB hB4
    clear hB4
    go_simp
    go_wp2_with fail
    go_ret
    exact ⟨rfl, hB⟩

end Go.Proofs.YtkeglokokleonaaDoor
