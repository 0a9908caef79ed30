/-
  Parts of the proof: XLawSAa
-/
import Derived.Test.YtclgllmipcbagaaGreatDoorBk29
import Derived.Test.YtclgllmipcbagaaGreatDoorSAk02
import Derived.Test.YtclgllmipcbagaaGreatDoorSAk00
namespace Go.Proofs.YtclgllmipcbagaaGreatDoor.SessionAddsLaw
open Go.ChangeShapes Go.WideShapes Go.ChangeAt Go.RowKit
set_option linter.unusedVariables false
set_option linter.unusedSimpArgs false
set_option maxRecDepth 100000
set_option maxHeartbeats 16000000
theorem lifted (os:Os)(started:os.Started)(H:Type)(enc:TypeId×Value→H):
 ReturnsInHanded {} Tryz.checked os 5 .any (fun w args=>(Rows.sessionAddsSpec.pre enc Tryz.prog Tryz.f5 Rows.sessionAddsRow.domain false w args∧laidMetH Tryz.prog Rows.sessionAddsRow.laid w)∧sizedMet enc Tryz.prog Tryz.f5 (OpenSpec.ofChange Rows.sessionAddsSpec) false w args)
  (Rows.sessionAddsSpec.post enc Tryz.prog Tryz.f5 false true false false):=by
 refine handed_and_shaped (C:=Tryz.checked) (X:=fun w _=>laidMetH Tryz.prog Rows.sessionAddsRow.laid w) (fun _ _ _ hh h=>h.of_heap hh) law_own started (by kernel_rfl) Tryz.func5
  (ChangeSpec.witness_shaped (enc:=enc) (C:=Tryz.checked) (os:=os) (X:=fun w _=>laidMetH Tryz.prog Rows.sessionAddsRow.laid w) false (World.laidAll Tryz.prog os Rows.sessionAddsRow.laid) #[.agg #[.slice none 0 0,.slice none 0 0,.slice none 0 0],.string .empty,.slice none 0 0] 8 (World.laidAll_os _ _ _)
    (World.shaped_of_ZipB (by kernel_rfl) (by kernel_rfl)) (by kernel_rfl) (by kernel_rfl) (by kernel_rfl)
    (by rw[MakeChecks.laidMetH_plain _ _ _ (by kernel_rfl)];exact laidMet_laidAll _ (by kernel_rfl) (by kernel_rfl))) ?_
 intro W base args ds gs before hval0 hW hcnd hsz0 hL hsh _;have hsz:(DataW.weightsEach Tryz.prog (Tryz.f5.params.toList++Rows.sessionAddsSpec.plain.varTypes Tryz.prog) (ds++gs)).all (· ≤reachBytes)=true:=hsz0;have hEnv:EnvS W:=env_ofC (show laidMetH Tryz.prog Rows.sessionAddsRow.laid W from hL) hsh;clear hL hsz0 hsh;have hval:∀(j:Nat) t v,Tryz.f5.params[j]? =some t→args[j]? =some v→Value.okWide Tryz.prog W .any base t v:=hval0;have hW':=hW;obtain⟨p,q,hA0,hV,rfl,hfz,hnd⟩:=hW;have hA:DataW.TrodAll enc Tryz.prog W 0 (fun _=>true) true Tryz.f5.params.toList args.toList ds p:=hA0;rw[Tryz.params5]at hA hval hsz
 obtain⟨v0,v1,v2,d0,d1,d2,p0,p1,p2,rfl,rfl,rfl,h0,h1,h2⟩:=trodAll_three hA;obtain⟨rfl,rfl⟩:=trodVars_none hV;have k0:=h0;have lt0:∀x∈p0,x.block<W.heap.size:=by obtain⟨m,hm⟩:=k0;exact DataW.trod_lt m _ _ _ hm
 obtain⟨s0,w0,m0⟩:=reads_ses (hval 0 25 v0 rfl rfl) h0 (weigh hsz 0 _ _ rfl rfl);obtain⟨s1,rfl,rfl,rfl,hs1⟩:=Go.ChangeMaps.open_string und_string (hval 1 9 v1 rfl rfl) h1;have k2:=h2;have lt2:∀x∈p2,x.block<W.heap.size:=by obtain⟨m,hm⟩:=k2;exact DataW.trod_lt m _ _ _ hm
 obtain⟨a2,len2,cap2,rfl⟩:=okWide_slice und_Ints (hval 2 29 v2 rfl rfl);obtain⟨fuel2,hf2⟩:=h2;obtain⟨l2,w2⟩:=reads_ints und_Ints (by simpa[Value.cells]using hf2) (weigh hsz 2 _ _ rfl rfl);clear hA0 hval0;refine(l_Adds s0 s1.data.toList l2 v0 _ W hEnv w0 m0 w2 (by have:=sized_string hsz (j:=1) rfl rfl;have:=reachBytes_lt;omega)).mono fun e W' ⟨he,bel⟩=> ?_;subst he;exact⟨_,rfl,_,_,_,[],_,[],hW',trodAll_mk1 (shut_bool und_bool _),(trodAll_cons_mk (Below.trod law_laidOut (by kernel_rfl) (of_decide_eq_true (by kernel_rfl)) k0 bel lt0) (trodAll_cons_mk (Go.ChangeMaps.shut_string und_string hs1) (trodAll_cons_mk (Below.trod law_laidOut (by kernel_rfl) (of_decide_eq_true (by kernel_rfl)) k2 bel lt2) trodAll_mk0))),rfl,bel.frame _,fun h=>by cases h⟩
end Go.Proofs.YtclgllmipcbagaaGreatDoor.SessionAddsLaw
