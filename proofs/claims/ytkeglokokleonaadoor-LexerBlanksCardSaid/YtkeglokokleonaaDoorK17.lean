/-
  lexer.Signed at a minus and a number behind it.
-/
import Derived.Test.YtkeglokokleonaaDoorK12
import Derived.Test.YtkeglokokleonaaDoorK16
namespace Go.Proofs.YtkeglokokleonaaDoor
open Go.RowKit

set_option maxRecDepth 100000 in
set_option maxHeartbeats 4000000 in
theorem p_Signed_zero (l : List Tok) (v : Value) (w : World) (hv : ToksR w v l) (h2 : l.length = 3) (a0 : (l[0]?.getD default).kind = 2 ∧ (l[0]?.getD default).text = [45]) (a1 : (l[1]?.getD default).kind = 1 ∧ (l[1]?.getD default).text = [48]) :
    Calls Tryd.prog 26 #[v, .int .i64 0] w fun e w' => e = .returned (.tuple #[.int .i64 0, .int .i64 0, .int .i64 4]) ∧ Below w.heap.size w w' := by
  obtain ⟨b, off, cap, rfl, hb, x1, x2, x3⟩ := hv.at' 0 (by omega)
  obtain ⟨b', off', cap', hvv, _, y1, y2, y3⟩ := hv.at' 1 (by omega)
  injection hvv with q1 q2 q3
  injection q1 with q1
  injection q1 with q4 q5
  subst q4 q5 q3
  rw [a0.1] at x1
  rw [a0.2] at x2
  rw [a1.1] at y1
  rw [a1.2] at y2
  rw [h2]
  clear hv a0 a1 h2 x3 y3
  simp at x1 x2 y1 y2
  have e1 : (str [45]).toList = ({ data := #[45] } : ByteArray).toList := rfl
  have e2 : (str [48]).toList = ({ data := #[48] } : ByteArray).toList := rfl
  go_enter Tryd.func26, Tryd.ntmps26
  go_wp2_with fail
  go_ret3
  exact ⟨rfl, Below.refl _ _⟩

set_option maxRecDepth 100000 in
set_option maxHeartbeats 4000000 in
theorem p_Signed_minus (l : List Tok) (v : Value) (w : World) (hv : ToksR w v l) (h2 : l.length = 5) (a0 : (l[2]?.getD default).kind = 2 ∧ (l[2]?.getD default).text = [45]) (a1 : (l[3]?.getD default).kind = 1 ∧ (l[3]?.getD default).text = [49, 50]) :
    Calls Tryd.prog 26 #[v, .int .i64 2] w fun e w' => e = .returned (.tuple #[.int .i64 (-12), .int .i64 4, .int .i64 0]) ∧ Below w.heap.size w w' := by
  obtain ⟨b, off, cap, rfl, hb, x1, x2, x3⟩ := hv.at' 2 (by omega)
  obtain ⟨b', off', cap', hvv, _, y1, y2, y3⟩ := hv.at' 3 (by omega)
  injection hvv with q1 q2 q3
  injection q1 with q1
  injection q1 with q4 q5
  subst q4 q5 q3
  rw [a0.1] at x1
  rw [a0.2] at x2
  rw [a1.1] at y1
  rw [a1.2] at y2
  rw [h2]
  clear hv a0 a1 h2 x3 y3
  simp at x1 x2 y1 y2
  have e1 : (str [45]).toList = ({ data := #[45] } : ByteArray).toList := rfl
  have e2 : ((str [49, 50]).toList == [48]) = false := by rw [ByteArray.toList_eq]; rfl
  go_enter Tryd.func26, Tryd.ntmps26
  go_wp2_with fail
  refine (p_Natural [49, 50] 12 w rfl (by decide) (by kernel_rfl) (by decide)).mono ?_
  rintro e w1 ⟨rfl, hB⟩
  go_simp
  go_wp2_with fail
  go_ret3
  exact ⟨rfl, hB⟩

end Go.Proofs.YtkeglokokleonaaDoor
