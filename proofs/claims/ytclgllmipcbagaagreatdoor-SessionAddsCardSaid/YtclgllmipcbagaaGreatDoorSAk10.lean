/-
  Parts of the proof: XLawSAp5
-/
import Derived.Test.YtclgllmipcbagaaGreatDoorRows
import Derived.ProofKit
import Derived.JoinedOf
namespace Go.Proofs.YtclgllmipcbagaaGreatDoor.SessionAddsLaw
open Go.ChangeShapes Go.WideShapes Go.ChangeAt Go.RowKit
set_option linter.unusedVariables false
set_option linter.unusedSimpArgs false
set_option maxRecDepth 100000
set_option maxHeartbeats 16000000
theorem f_wf:Rows.sessionAddsRow.wf (OpenSpec.ofChange Rows.sessionAddsSpec)=true:=by kernel_rfl
theorem f_params:Tryz.f5.params.all (Tryz.prog.readableRec ·)=true:=by kernel_rfl
theorem f_tie:namedTie Tryz.prog Rows.sessionAddsRow.named Rows.sessionAddsSpec.vars=true:=by kernel_rfl
theorem f_stops:(Rows.sessionAddsRow.stops==[])=true:=by kernel_rfl
theorem f_knobs:(Rows.sessionAddsRow.knobs==[])=true:=by kernel_rfl
theorem f_maps:(Rows.sessionAddsRow.maps==(Tryz.f5.params.toList++Rows.sessionAddsSpec.plain.varTypes Tryz.prog).any (Tryz.prog.mapsRec ·))=true:=by kernel_rfl
theorem f_ifaces:(Rows.sessionAddsRow.ifaces==(Tryz.f5.params.toList++Rows.sessionAddsSpec.plain.varTypes Tryz.prog).any (Tryz.prog.ifacesRec ·))=true:=by kernel_rfl
theorem f_mapsOut:(Rows.sessionAddsRow.mapsOut==Tryz.prog.mapsAmong Tryz.f5.resultTypes.toList)=true:=by kernel_rfl
theorem f_loops:(Rows.sessionAddsRow.loops==(Tryz.f5.params.toList++Rows.sessionAddsSpec.plain.varTypes Tryz.prog).any (Tryz.prog.loopsFrom ·))=true:=by kernel_rfl
theorem f_wideKeys:(Rows.sessionAddsRow.wideKeys==(Tryz.f5.params.toList++Rows.sessionAddsSpec.plain.varTypes Tryz.prog++Tryz.f5.resultTypes.toList).any (Tryz.prog.wideKeysFrom ·))=true:=by kernel_rfl
theorem f_vars:Rows.sessionAddsSpec.vars.all (Tryz.prog.varReadable ·)=true:=by kernel_rfl
theorem f_results:Tryz.f5.resultTypes.all (fun t=>Tryz.prog.readableRec t&&decide (t<Tryz.prog.types.size))=true:=by kernel_rfl
theorem f_ifacesOut:(Rows.sessionAddsRow.ifacesOut==Tryz.f5.resultTypes.toList.any (Tryz.prog.ifacesRec ·))=true:=by kernel_rfl
theorem f_loopsOut:(Rows.sessionAddsRow.loopsOut==Tryz.f5.resultTypes.toList.any (Tryz.prog.loopsFrom ·))=true:=by kernel_rfl
theorem f_plainKeys:(Rows.sessionAddsRow.plainKeys==Tryz.prog.plainKeys)=true:=by kernel_rfl
theorem f_short:Rows.sessionAddsRow.shortTexts.isNone=true:=by kernel_rfl
theorem f_lifted:(Rows.sessionAddsRow.lifted==Tryz.prog.liftsFinal)=true:=by kernel_rfl
theorem f_make:(Tryz.prog.make==some Rows.sessionAddsRow.make)=true:=by kernel_rfl
theorem f_kinds:(Rows.sessionAddsRow.kinds==(if Rows.sessionAddsRow.domain.isEmpty then[]else Tryz.f5.params.toList.map fun t=>match Tryz.prog.underlying t with|some (.int k)=>some k|_=>none))=true:=by kernel_rfl
theorem f_pinned:(Rows.sessionAddsRow.pinned==Rows.sessionAddsRow.pinnedBy)=true:=by kernel_rfl
theorem f_veiled:(Rows.sessionAddsRow.veiled==(Tryz.f5.params.toList++Rows.sessionAddsSpec.plain.varTypes Tryz.prog++Tryz.f5.resultTypes.toList).any (Tryz.prog.veiledRec ·))=true:=by kernel_rfl
theorem f_veiledFits:Rows.sessionAddsRow.veiledFits Tryz.prog Tryz.f5.params.toList (Tryz.f5.params.toList++Rows.sessionAddsSpec.plain.varTypes Tryz.prog++Tryz.f5.resultTypes.toList)=true:=by kernel_rfl
end Go.Proofs.YtclgllmipcbagaaGreatDoor.SessionAddsLaw
