/-
  Parts of the proof: XLawSTp5
-/
import Derived.Test.YtclgllmipcbagaaGreatDoorRows
import Derived.ProofKit
import Derived.JoinedOf
namespace Go.Proofs.YtclgllmipcbagaaGreatDoor.SessionTearsLaw
open Go.ChangeShapes Go.WideShapes Go.ChangeAt Go.RowKit
set_option linter.unusedVariables false
set_option linter.unusedSimpArgs false
set_option maxRecDepth 100000
set_option maxHeartbeats 16000000
theorem f_wf:Rows.sessionTearsRow.wf (OpenSpec.ofChange Rows.sessionTearsSpec)=true:=by kernel_rfl
theorem f_params:Tryz.f10.params.all (Tryz.prog.readableRec ·)=true:=by kernel_rfl
theorem f_tie:namedTie Tryz.prog Rows.sessionTearsRow.named Rows.sessionTearsSpec.vars=true:=by kernel_rfl
theorem f_stops:(Rows.sessionTearsRow.stops==[])=true:=by kernel_rfl
theorem f_knobs:(Rows.sessionTearsRow.knobs==[])=true:=by kernel_rfl
theorem f_maps:(Rows.sessionTearsRow.maps==(Tryz.f10.params.toList++Rows.sessionTearsSpec.plain.varTypes Tryz.prog).any (Tryz.prog.mapsRec ·))=true:=by kernel_rfl
theorem f_ifaces:(Rows.sessionTearsRow.ifaces==(Tryz.f10.params.toList++Rows.sessionTearsSpec.plain.varTypes Tryz.prog).any (Tryz.prog.ifacesRec ·))=true:=by kernel_rfl
theorem f_mapsOut:(Rows.sessionTearsRow.mapsOut==Tryz.prog.mapsAmong Tryz.f10.resultTypes.toList)=true:=by kernel_rfl
theorem f_loops:(Rows.sessionTearsRow.loops==(Tryz.f10.params.toList++Rows.sessionTearsSpec.plain.varTypes Tryz.prog).any (Tryz.prog.loopsFrom ·))=true:=by kernel_rfl
theorem f_wideKeys:(Rows.sessionTearsRow.wideKeys==(Tryz.f10.params.toList++Rows.sessionTearsSpec.plain.varTypes Tryz.prog++Tryz.f10.resultTypes.toList).any (Tryz.prog.wideKeysFrom ·))=true:=by kernel_rfl
theorem f_vars:Rows.sessionTearsSpec.vars.all (Tryz.prog.varReadable ·)=true:=by kernel_rfl
theorem f_results:Tryz.f10.resultTypes.all (fun t=>Tryz.prog.readableRec t&&decide (t<Tryz.prog.types.size))=true:=by kernel_rfl
theorem f_ifacesOut:(Rows.sessionTearsRow.ifacesOut==Tryz.f10.resultTypes.toList.any (Tryz.prog.ifacesRec ·))=true:=by kernel_rfl
theorem f_loopsOut:(Rows.sessionTearsRow.loopsOut==Tryz.f10.resultTypes.toList.any (Tryz.prog.loopsFrom ·))=true:=by kernel_rfl
theorem f_plainKeys:(Rows.sessionTearsRow.plainKeys==Tryz.prog.plainKeys)=true:=by kernel_rfl
theorem f_short:Rows.sessionTearsRow.shortTexts.isNone=true:=by kernel_rfl
theorem f_lifted:(Rows.sessionTearsRow.lifted==Tryz.prog.liftsFinal)=true:=by kernel_rfl
theorem f_make:(Tryz.prog.make==some Rows.sessionTearsRow.make)=true:=by kernel_rfl
theorem f_kinds:(Rows.sessionTearsRow.kinds==(if Rows.sessionTearsRow.domain.isEmpty then[]else Tryz.f10.params.toList.map fun t=>match Tryz.prog.underlying t with|some (.int k)=>some k|_=>none))=true:=by kernel_rfl
theorem f_pinned:(Rows.sessionTearsRow.pinned==Rows.sessionTearsRow.pinnedBy)=true:=by kernel_rfl
theorem f_veiled:(Rows.sessionTearsRow.veiled==(Tryz.f10.params.toList++Rows.sessionTearsSpec.plain.varTypes Tryz.prog++Tryz.f10.resultTypes.toList).any (Tryz.prog.veiledRec ·))=true:=by kernel_rfl
theorem f_veiledFits:Rows.sessionTearsRow.veiledFits Tryz.prog Tryz.f10.params.toList (Tryz.f10.params.toList++Rows.sessionTearsSpec.plain.varTypes Tryz.prog++Tryz.f10.resultTypes.toList)=true:=by kernel_rfl
end Go.Proofs.YtclgllmipcbagaaGreatDoor.SessionTearsLaw
