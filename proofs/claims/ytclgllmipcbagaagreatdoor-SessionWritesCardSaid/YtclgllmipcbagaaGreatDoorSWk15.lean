/-
  Parts of the proof: XLawSWp5
-/
import Derived.Test.YtclgllmipcbagaaGreatDoorRows
import Derived.ProofKit
import Derived.JoinedOf
namespace Go.Proofs.YtclgllmipcbagaaGreatDoor.SessionWritesLaw
open Go.ChangeShapes Go.WideShapes Go.ChangeAt Go.RowKit
set_option linter.unusedVariables false
set_option linter.unusedSimpArgs false
set_option maxRecDepth 100000
set_option maxHeartbeats 16000000
theorem f_wf:Rows.sessionWritesRow.wf (OpenSpec.ofChange Rows.sessionWritesSpec)=true:=by kernel_rfl
theorem f_params:Tryz.f4.params.all (Tryz.prog.readableRec ·)=true:=by kernel_rfl
theorem f_tie:namedTie Tryz.prog Rows.sessionWritesRow.named Rows.sessionWritesSpec.vars=true:=by kernel_rfl
theorem f_stops:(Rows.sessionWritesRow.stops==[])=true:=by kernel_rfl
theorem f_knobs:(Rows.sessionWritesRow.knobs==[])=true:=by kernel_rfl
theorem f_maps:(Rows.sessionWritesRow.maps==(Tryz.f4.params.toList++Rows.sessionWritesSpec.plain.varTypes Tryz.prog).any (Tryz.prog.mapsRec ·))=true:=by kernel_rfl
theorem f_ifaces:(Rows.sessionWritesRow.ifaces==(Tryz.f4.params.toList++Rows.sessionWritesSpec.plain.varTypes Tryz.prog).any (Tryz.prog.ifacesRec ·))=true:=by kernel_rfl
theorem f_mapsOut:(Rows.sessionWritesRow.mapsOut==Tryz.prog.mapsAmong Tryz.f4.resultTypes.toList)=true:=by kernel_rfl
theorem f_loops:(Rows.sessionWritesRow.loops==(Tryz.f4.params.toList++Rows.sessionWritesSpec.plain.varTypes Tryz.prog).any (Tryz.prog.loopsFrom ·))=true:=by kernel_rfl
theorem f_wideKeys:(Rows.sessionWritesRow.wideKeys==(Tryz.f4.params.toList++Rows.sessionWritesSpec.plain.varTypes Tryz.prog++Tryz.f4.resultTypes.toList).any (Tryz.prog.wideKeysFrom ·))=true:=by kernel_rfl
theorem f_vars:Rows.sessionWritesSpec.vars.all (Tryz.prog.varReadable ·)=true:=by kernel_rfl
theorem f_results:Tryz.f4.resultTypes.all (fun t=>Tryz.prog.readableRec t&&decide (t<Tryz.prog.types.size))=true:=by kernel_rfl
theorem f_ifacesOut:(Rows.sessionWritesRow.ifacesOut==Tryz.f4.resultTypes.toList.any (Tryz.prog.ifacesRec ·))=true:=by kernel_rfl
theorem f_loopsOut:(Rows.sessionWritesRow.loopsOut==Tryz.f4.resultTypes.toList.any (Tryz.prog.loopsFrom ·))=true:=by kernel_rfl
theorem f_plainKeys:(Rows.sessionWritesRow.plainKeys==Tryz.prog.plainKeys)=true:=by kernel_rfl
theorem f_short:Rows.sessionWritesRow.shortTexts.isNone=true:=by kernel_rfl
theorem f_lifted:(Rows.sessionWritesRow.lifted==Tryz.prog.liftsFinal)=true:=by kernel_rfl
theorem f_make:(Tryz.prog.make==some Rows.sessionWritesRow.make)=true:=by kernel_rfl
theorem f_kinds:(Rows.sessionWritesRow.kinds==(if Rows.sessionWritesRow.domain.isEmpty then[]else Tryz.f4.params.toList.map fun t=>match Tryz.prog.underlying t with|some (.int k)=>some k|_=>none))=true:=by kernel_rfl
theorem f_pinned:(Rows.sessionWritesRow.pinned==Rows.sessionWritesRow.pinnedBy)=true:=by kernel_rfl
theorem f_veiled:(Rows.sessionWritesRow.veiled==(Tryz.f4.params.toList++Rows.sessionWritesSpec.plain.varTypes Tryz.prog++Tryz.f4.resultTypes.toList).any (Tryz.prog.veiledRec ·))=true:=by kernel_rfl
theorem f_veiledFits:Rows.sessionWritesRow.veiledFits Tryz.prog Tryz.f4.params.toList (Tryz.f4.params.toList++Rows.sessionWritesSpec.plain.varTypes Tryz.prog++Tryz.f4.resultTypes.toList)=true:=by kernel_rfl
end Go.Proofs.YtclgllmipcbagaaGreatDoor.SessionWritesLaw
