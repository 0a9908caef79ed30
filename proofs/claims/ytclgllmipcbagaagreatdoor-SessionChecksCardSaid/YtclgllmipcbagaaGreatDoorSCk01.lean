/-
  Parts of the proof: XLawSCa
-/
import Derived.Test.YtclgllmipcbagaaGreatDoorBk29
import Derived.Test.YtclgllmipcbagaaGreatDoorSCk00
namespace Go.Proofs.YtclgllmipcbagaaGreatDoor.SessionChecksLaw
open Go.ChangeShapes Go.WideShapes Go.ChangeAt Go.RowKit
set_option linter.unusedVariables false
set_option linter.unusedSimpArgs false
set_option maxRecDepth 100000
set_option maxHeartbeats 16000000
theorem lifted (os:Os)(started:os.Started)(H:Type)(enc:TypeId×Value→H):
 ReturnsInHanded {} Tryz.checked os 6 .any (fun w args=>(Rows.sessionChecksSpec.pre enc Tryz.prog Tryz.f6 Rows.sessionChecksRow.domain false w args∧laidMetH Tryz.prog Rows.sessionChecksRow.laid w)∧sizedMet enc Tryz.prog Tryz.f6 (OpenSpec.ofChange Rows.sessionChecksSpec) false w args)
  (Rows.sessionChecksSpec.post enc Tryz.prog Tryz.f6 false true false false):=by
 refine handed_and_shaped (C:=Tryz.checked) (X:=fun w _=>laidMetH Tryz.prog Rows.sessionChecksRow.laid w) (fun _ _ _ hh h=>h.of_heap hh) law_own started (by kernel_rfl) Tryz.func6
  (ChangeSpec.witness_shaped (enc:=enc) (C:=Tryz.checked) (os:=os) (X:=fun w _=>laidMetH Tryz.prog Rows.sessionChecksRow.laid w) false (World.laidAll Tryz.prog os Rows.sessionChecksRow.laid) #[.agg #[.slice none 0 0,.slice none 0 0,.slice none 0 0],.agg #[.slice none 0 0,.slice none 0 0,.slice none 0 0],.string .empty] 8 (World.laidAll_os _ _ _)
    (World.shaped_of_ZipB (by kernel_rfl) (by kernel_rfl)) (by kernel_rfl) (by kernel_rfl) (by kernel_rfl)
    (by rw[MakeChecks.laidMetH_plain _ _ _ (by kernel_rfl)];exact laidMet_laidAll _ (by kernel_rfl) (by kernel_rfl))) ?_
 intro W base args ds gs before hval0 hW hcnd hsz0 hL hsh _;have hsz:(DataW.weightsEach Tryz.prog (Tryz.f6.params.toList++Rows.sessionChecksSpec.plain.varTypes Tryz.prog) (ds++gs)).all (· ≤reachBytes)=true:=hsz0;have hEnv:EnvS W:=env_ofC (show laidMetH Tryz.prog Rows.sessionChecksRow.laid W from hL) hsh;clear hL hsz0 hsh;have hval:∀(j:Nat) t v,Tryz.f6.params[j]? =some t→args[j]? =some v→Value.okWide Tryz.prog W .any base t v:=hval0;have hW':=hW;obtain⟨p,q,hA0,hV,rfl,hfz,hnd⟩:=hW;have hA:DataW.TrodAll enc Tryz.prog W 0 (fun _=>true) true Tryz.f6.params.toList args.toList ds p:=hA0;rw[Tryz.params6]at hA hval hsz
 obtain⟨v0,v1,v2,d0,d1,d2,p0,p1,p2,rfl,rfl,rfl,h0,h1,h2⟩:=trodAll_three hA;obtain⟨rfl,rfl⟩:=trodVars_none hV;have k0:=h0;have lt0:∀x∈p0,x.block<W.heap.size:=by obtain⟨m,hm⟩:=k0;exact DataW.trod_lt m _ _ _ hm
 obtain⟨s0,w0,m0⟩:=reads_ses (hval 0 25 v0 rfl rfl) h0 (weigh hsz 0 _ _ rfl rfl);have k1:=h1;have lt1:∀x∈p1,x.block<W.heap.size:=by obtain⟨m,hm⟩:=k1;exact DataW.trod_lt m _ _ _ hm
 obtain⟨s1,w1,m1⟩:=reads_ses (hval 1 25 v1 rfl rfl) h1 (weigh hsz 1 _ _ rfl rfl);obtain⟨s2,rfl,rfl,rfl,hs2⟩:=Go.ChangeMaps.open_string und_string (hval 2 9 v2 rfl rfl) h2;clear hA0 hval0;refine(l_Checks s0 s1 s2.data.toList v0 v1 W hEnv w0 w1 m0 m1 (by have:=sized_string hsz (j:=2) rfl rfl;have:=reachBytes_lt;omega)).mono fun e W' ⟨he,bel⟩=> ?_;subst he;exact⟨_,rfl,_,_,_,[],_,[],hW',trodAll_mk1 (shut_bool und_bool _),(trodAll_cons_mk (Below.trod law_laidOut (by kernel_rfl) (of_decide_eq_true (by kernel_rfl)) k0 bel lt0) (trodAll_cons_mk (Below.trod law_laidOut (by kernel_rfl) (of_decide_eq_true (by kernel_rfl)) k1 bel lt1) (trodAll_cons_mk (Go.ChangeMaps.shut_string und_string hs2) trodAll_mk0))),rfl,bel.frame _,fun h=>by cases h⟩
end Go.Proofs.YtclgllmipcbagaaGreatDoor.SessionChecksLaw
