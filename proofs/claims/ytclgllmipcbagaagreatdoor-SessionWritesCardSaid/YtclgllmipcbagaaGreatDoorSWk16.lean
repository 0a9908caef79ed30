/-
  Parts of the proof: XLawSWb
-/
import Derived.Test.YtclgllmipcbagaaGreatDoorSWk08
import Derived.Test.YtclgllmipcbagaaGreatDoorSWk09
import Derived.Test.YtclgllmipcbagaaGreatDoorSWk10
import Derived.Test.YtclgllmipcbagaaGreatDoorSWk11
import Derived.Test.YtclgllmipcbagaaGreatDoorSWk12
import Derived.Test.YtclgllmipcbagaaGreatDoorSWk13
import Derived.Test.YtclgllmipcbagaaGreatDoorSWk14
import Derived.Test.YtclgllmipcbagaaGreatDoorSWk15
namespace Go.Proofs.YtclgllmipcbagaaGreatDoor.SessionWritesLaw
open Go.ChangeShapes Go.WideShapes Go.ChangeAt Go.RowKit
set_option linter.unusedVariables false
set_option linter.unusedSimpArgs false
set_option maxRecDepth 100000
set_option maxHeartbeats 16000000
theorem and_t {a b:Bool}(h1:a=true)(h2:b=true):(a&&b)=true:=by rw[h1,h2];rfl
theorem closed:joinedFacts Tryz.prog 4 Tryz.f4 Rows.sessionWritesSpec Rows.sessionWritesRow=true:=by
 unfold joinedFacts;exact and_t (and_t (and_t (and_t (and_t (and_t (and_t (and_t (and_t (and_t (and_t (and_t (and_t (and_t (and_t (and_t (and_t (and_t (and_t (and_t (and_t (and_t (and_t (and_t (and_t (and_t (and_t (and_t (and_t (and_t (and_t (f_wf) pf_laid) pf_maps) f_params) f_tie) f_stops) pf_stops) f_knobs) pf_knobs) f_inPlace) f_unfollowed) f_recurses) f_named) f_maps) f_ifaces) f_mapsOut) f_loops) f_wideKeys) f_vars) f_results) f_ifacesOut) f_loopsOut) f_plainKeys) f_short) pf_heard) pf_enter) f_lifted) f_make) f_kinds) f_pinned) f_veiled) f_veiledFits
theorem over:Rows.sessionWritesRow.holds Tryz.pinned (OpenSpec.ofChange Rows.sessionWritesSpec):=
 OpenClaim.holds_of_wide 4 Tryz.f4 rfl rfl rfl rfl rfl rfl rfl ⟨rfl,rfl,rfl,rfl,rfl⟩ rfl rfl rfl rfl rfl (by kernel_rfl) Tryz.func4 closed
  (of_decide_eq_true (by kernel_rfl)) (by unfold Func.isWrapper;first|(rw [if_pos (by decide +kernel)];kernel_rfl)|(rw [if_neg (by decide +kernel)];exact⟨rfl,rfl⟩))
  (fun os started H enc _=>lifted os started H enc)
end Go.Proofs.YtclgllmipcbagaaGreatDoor.SessionWritesLaw
