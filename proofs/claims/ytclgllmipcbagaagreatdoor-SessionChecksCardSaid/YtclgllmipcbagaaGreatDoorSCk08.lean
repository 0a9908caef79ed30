/-
  Parts of the proof: XLawSCp5
-/
import Derived.Test.YtclgllmipcbagaaGreatDoorRows
import Derived.ProofKit
import Derived.JoinedOf
namespace Go.Proofs.YtclgllmipcbagaaGreatDoor.SessionChecksLaw
open Go.ChangeShapes Go.WideShapes Go.ChangeAt Go.RowKit
set_option linter.unusedVariables false
set_option linter.unusedSimpArgs false
set_option maxRecDepth 100000
set_option maxHeartbeats 16000000
theorem f_wf:Rows.sessionChecksRow.wf (OpenSpec.ofChange Rows.sessionChecksSpec)=true:=by kernel_rfl
theorem f_params:Tryz.f6.params.all (Tryz.prog.readableRec ·)=true:=by kernel_rfl
theorem f_tie:namedTie Tryz.prog Rows.sessionChecksRow.named Rows.sessionChecksSpec.vars=true:=by kernel_rfl
theorem f_stops:(Rows.sessionChecksRow.stops==[])=true:=by kernel_rfl
theorem f_knobs:(Rows.sessionChecksRow.knobs==[])=true:=by kernel_rfl
theorem f_maps:(Rows.sessionChecksRow.maps==(Tryz.f6.params.toList++Rows.sessionChecksSpec.plain.varTypes Tryz.prog).any (Tryz.prog.mapsRec ·))=true:=by kernel_rfl
theorem f_ifaces:(Rows.sessionChecksRow.ifaces==(Tryz.f6.params.toList++Rows.sessionChecksSpec.plain.varTypes Tryz.prog).any (Tryz.prog.ifacesRec ·))=true:=by kernel_rfl
theorem f_mapsOut:(Rows.sessionChecksRow.mapsOut==Tryz.prog.mapsAmong Tryz.f6.resultTypes.toList)=true:=by kernel_rfl
theorem f_loops:(Rows.sessionChecksRow.loops==(Tryz.f6.params.toList++Rows.sessionChecksSpec.plain.varTypes Tryz.prog).any (Tryz.prog.loopsFrom ·))=true:=by kernel_rfl
theorem f_wideKeys:(Rows.sessionChecksRow.wideKeys==(Tryz.f6.params.toList++Rows.sessionChecksSpec.plain.varTypes Tryz.prog++Tryz.f6.resultTypes.toList).any (Tryz.prog.wideKeysFrom ·))=true:=by kernel_rfl
theorem f_vars:Rows.sessionChecksSpec.vars.all (Tryz.prog.varReadable ·)=true:=by kernel_rfl
theorem f_results:Tryz.f6.resultTypes.all (fun t=>Tryz.prog.readableRec t&&decide (t<Tryz.prog.types.size))=true:=by kernel_rfl
theorem f_ifacesOut:(Rows.sessionChecksRow.ifacesOut==Tryz.f6.resultTypes.toList.any (Tryz.prog.ifacesRec ·))=true:=by kernel_rfl
theorem f_loopsOut:(Rows.sessionChecksRow.loopsOut==Tryz.f6.resultTypes.toList.any (Tryz.prog.loopsFrom ·))=true:=by kernel_rfl
theorem f_plainKeys:(Rows.sessionChecksRow.plainKeys==Tryz.prog.plainKeys)=true:=by kernel_rfl
theorem f_short:Rows.sessionChecksRow.shortTexts.isNone=true:=by kernel_rfl
theorem f_lifted:(Rows.sessionChecksRow.lifted==Tryz.prog.liftsFinal)=true:=by kernel_rfl
theorem f_make:(Tryz.prog.make==some Rows.sessionChecksRow.make)=true:=by kernel_rfl
theorem f_kinds:(Rows.sessionChecksRow.kinds==(if Rows.sessionChecksRow.domain.isEmpty then[]else Tryz.f6.params.toList.map fun t=>match Tryz.prog.underlying t with|some (.int k)=>some k|_=>none))=true:=by kernel_rfl
theorem f_pinned:(Rows.sessionChecksRow.pinned==Rows.sessionChecksRow.pinnedBy)=true:=by kernel_rfl
theorem f_veiled:(Rows.sessionChecksRow.veiled==(Tryz.f6.params.toList++Rows.sessionChecksSpec.plain.varTypes Tryz.prog++Tryz.f6.resultTypes.toList).any (Tryz.prog.veiledRec ·))=true:=by kernel_rfl
theorem f_veiledFits:Rows.sessionChecksRow.veiledFits Tryz.prog Tryz.f6.params.toList (Tryz.f6.params.toList++Rows.sessionChecksSpec.plain.varTypes Tryz.prog++Tryz.f6.resultTypes.toList)=true:=by kernel_rfl
end Go.Proofs.YtclgllmipcbagaaGreatDoor.SessionChecksLaw
