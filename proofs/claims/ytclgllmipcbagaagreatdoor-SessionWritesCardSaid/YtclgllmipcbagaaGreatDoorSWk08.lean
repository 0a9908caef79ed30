/-
  Parts of the proof: XLawSWa
-/
import Derived.Test.YtclgllmipcbagaaGreatDoorBkLast
import Derived.Test.YtclgllmipcbagaaGreatDoorSWk07
import Derived.Test.YtclgllmipcbagaaGreatDoorSWk00
import Derived.Test.YtclgllmipcbagaaGreatDoorSWk01
namespace Go.Proofs.YtclgllmipcbagaaGreatDoor.SessionWritesLaw
open Go.ChangeShapes Go.WideShapes Go.ChangeAt Go.RowKit
set_option linter.unusedVariables false
set_option linter.unusedSimpArgs false
set_option maxRecDepth 100000
set_option maxHeartbeats 16000000
theorem lifted (os:Os)(started:os.Started)(H:Type)(enc:TypeId×Value→H):
 ReturnsInHanded {} Tryz.checked os 4 .any (fun w args=>(Rows.sessionWritesSpec.pre enc Tryz.prog Tryz.f4 Rows.sessionWritesRow.domain false w args∧laidMetH Tryz.prog Rows.sessionWritesRow.laid w)∧sizedMet enc Tryz.prog Tryz.f4 (OpenSpec.ofChange Rows.sessionWritesSpec) false w args)
  (Rows.sessionWritesSpec.post enc Tryz.prog Tryz.f4 false true false false):=by
 refine handed_and_shaped (C:=Tryz.checked) (X:=fun w _=>laidMetH Tryz.prog Rows.sessionWritesRow.laid w) (fun _ _ _ hh h=>h.of_heap hh) law_own started (by kernel_rfl) Tryz.func4
  (ChangeSpec.witness_shaped (enc:=enc) (C:=Tryz.checked) (os:=os) (X:=fun w _=>laidMetH Tryz.prog Rows.sessionWritesRow.laid w) false (World.laidAll Tryz.prog os Rows.sessionWritesRow.laid) #[.agg #[.int .i64 0,.string .empty,.string .empty,.string .empty,.int .i64 0,.int .i64 0,.slice none 0 0,.slice none 0 0],.string .empty] 8 (World.laidAll_os _ _ _)
    (World.shaped_of_ZipB (by kernel_rfl) (by kernel_rfl)) (by kernel_rfl) (by kernel_rfl) (by kernel_rfl)
    (by rw[MakeChecks.laidMetH_plain _ _ _ (by kernel_rfl)];exact laidMet_laidAll _ (by kernel_rfl) (by kernel_rfl))) ?_
 intro W base args ds gs before hval0 hW hcnd hsz0 hL hsh _;have hsz:(DataW.weightsEach Tryz.prog (Tryz.f4.params.toList++Rows.sessionWritesSpec.plain.varTypes Tryz.prog) (ds++gs)).all (· ≤reachBytes)=true:=hsz0;have hEnv:EnvS W:=env_ofC (show laidMetH Tryz.prog Rows.sessionWritesRow.laid W from hL) hsh;clear hL hsz0 hsh;have hval:∀(j:Nat) t v,Tryz.f4.params[j]? =some t→args[j]? =some v→Value.okWide Tryz.prog W .any base t v:=hval0;have hW':=hW;obtain⟨p,q,hA0,hV,rfl,hfz,hnd⟩:=hW;have hA:DataW.TrodAll enc Tryz.prog W 0 (fun _=>true) true Tryz.f4.params.toList args.toList ds p:=hA0;rw[Tryz.params4]at hA hval hsz
 obtain⟨v0,v1,d0,d1,p0,p1,rfl,rfl,rfl,h0,h1⟩:=trodAll_two hA;obtain⟨rfl,rfl⟩:=trodVars_none hV;have k0:=h0;have lt0:∀x∈p0,x.block<W.heap.size:=by obtain⟨m,hm⟩:=k0;exact DataW.trod_lt m _ _ _ hm
 obtain⟨c0,w0,m0⟩:=reads_cmd (hval 0 31 v0 rfl rfl) h0 (weigh hsz 0 _ _ rfl rfl);obtain⟨s1,rfl,rfl,rfl,hs1⟩:=Go.ChangeMaps.open_string und_string (hval 1 9 v1 rfl rfl) h1;clear hA0 hval0;refine(l_Writes c0 v0 s1.data.toList W hEnv w0 m0 (by have:=sized_string hsz (j:=1) rfl rfl;have:=reachBytes_lt;omega)).mono fun e W' ⟨he,bel⟩=> ?_;subst he;exact⟨_,rfl,_,_,_,[],_,[],hW',trodAll_mk1 (shut_bool und_bool _),(trodAll_cons_mk (Below.trod law_laidOut (by kernel_rfl) (of_decide_eq_true (by kernel_rfl)) k0 bel lt0) (trodAll_cons_mk (Go.ChangeMaps.shut_string und_string hs1) trodAll_mk0)),rfl,bel.frame _,fun h=>by cases h⟩
end Go.Proofs.YtclgllmipcbagaaGreatDoor.SessionWritesLaw
