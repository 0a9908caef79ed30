/-
  Parts of the proof: XLawSRp5
-/
import Derived.Test.YtclgllmipcbagaaGreatDoorRows
import Derived.ProofKit
import Derived.JoinedOf
namespace Go.Proofs.YtclgllmipcbagaaGreatDoor.SessionReadsLaw
open Go.ChangeShapes Go.WideShapes Go.ChangeAt Go.RowKit
set_option linter.unusedVariables false
set_option linter.unusedSimpArgs false
set_option maxRecDepth 100000
set_option maxHeartbeats 16000000
theorem f_wf:Rows.sessionReadsRow.wf (OpenSpec.ofChange Rows.sessionReadsSpec)=true:=by kernel_rfl
theorem f_params:Tryz.f9.params.all (Tryz.prog.readableRec ·)=true:=by kernel_rfl
theorem f_tie:namedTie Tryz.prog Rows.sessionReadsRow.named Rows.sessionReadsSpec.vars=true:=by kernel_rfl
theorem f_stops:(Rows.sessionReadsRow.stops==[])=true:=by kernel_rfl
theorem f_knobs:(Rows.sessionReadsRow.knobs==[])=true:=by kernel_rfl
theorem f_maps:(Rows.sessionReadsRow.maps==(Tryz.f9.params.toList++Rows.sessionReadsSpec.plain.varTypes Tryz.prog).any (Tryz.prog.mapsRec ·))=true:=by kernel_rfl
theorem f_ifaces:(Rows.sessionReadsRow.ifaces==(Tryz.f9.params.toList++Rows.sessionReadsSpec.plain.varTypes Tryz.prog).any (Tryz.prog.ifacesRec ·))=true:=by kernel_rfl
theorem f_mapsOut:(Rows.sessionReadsRow.mapsOut==Tryz.prog.mapsAmong Tryz.f9.resultTypes.toList)=true:=by kernel_rfl
theorem f_loops:(Rows.sessionReadsRow.loops==(Tryz.f9.params.toList++Rows.sessionReadsSpec.plain.varTypes Tryz.prog).any (Tryz.prog.loopsFrom ·))=true:=by kernel_rfl
theorem f_wideKeys:(Rows.sessionReadsRow.wideKeys==(Tryz.f9.params.toList++Rows.sessionReadsSpec.plain.varTypes Tryz.prog++Tryz.f9.resultTypes.toList).any (Tryz.prog.wideKeysFrom ·))=true:=by kernel_rfl
theorem f_vars:Rows.sessionReadsSpec.vars.all (Tryz.prog.varReadable ·)=true:=by kernel_rfl
theorem f_results:Tryz.f9.resultTypes.all (fun t=>Tryz.prog.readableRec t&&decide (t<Tryz.prog.types.size))=true:=by kernel_rfl
theorem f_ifacesOut:(Rows.sessionReadsRow.ifacesOut==Tryz.f9.resultTypes.toList.any (Tryz.prog.ifacesRec ·))=true:=by kernel_rfl
theorem f_loopsOut:(Rows.sessionReadsRow.loopsOut==Tryz.f9.resultTypes.toList.any (Tryz.prog.loopsFrom ·))=true:=by kernel_rfl
theorem f_plainKeys:(Rows.sessionReadsRow.plainKeys==Tryz.prog.plainKeys)=true:=by kernel_rfl
theorem f_short:Rows.sessionReadsRow.shortTexts.isNone=true:=by kernel_rfl
theorem f_lifted:(Rows.sessionReadsRow.lifted==Tryz.prog.liftsFinal)=true:=by kernel_rfl
theorem f_make:(Tryz.prog.make==some Rows.sessionReadsRow.make)=true:=by kernel_rfl
theorem f_kinds:(Rows.sessionReadsRow.kinds==(if Rows.sessionReadsRow.domain.isEmpty then[]else Tryz.f9.params.toList.map fun t=>match Tryz.prog.underlying t with|some (.int k)=>some k|_=>none))=true:=by kernel_rfl
theorem f_pinned:(Rows.sessionReadsRow.pinned==Rows.sessionReadsRow.pinnedBy)=true:=by kernel_rfl
theorem f_veiled:(Rows.sessionReadsRow.veiled==(Tryz.f9.params.toList++Rows.sessionReadsSpec.plain.varTypes Tryz.prog++Tryz.f9.resultTypes.toList).any (Tryz.prog.veiledRec ·))=true:=by kernel_rfl
theorem f_veiledFits:Rows.sessionReadsRow.veiledFits Tryz.prog Tryz.f9.params.toList (Tryz.f9.params.toList++Rows.sessionReadsSpec.plain.varTypes Tryz.prog++Tryz.f9.resultTypes.toList)=true:=by kernel_rfl
end Go.Proofs.YtclgllmipcbagaaGreatDoor.SessionReadsLaw
