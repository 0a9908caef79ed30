/-
  Parts of the proof: XLawSTa
-/
import Derived.Test.YtclgllmipcbagaaGreatDoorBk29
import Derived.Test.YtclgllmipcbagaaGreatDoorSTk00
namespace Go.Proofs.YtclgllmipcbagaaGreatDoor.SessionTearsLaw
open Go.ChangeShapes Go.WideShapes Go.ChangeAt Go.RowKit
set_option linter.unusedVariables false
set_option linter.unusedSimpArgs false
set_option maxRecDepth 100000
set_option maxHeartbeats 16000000
theorem lifted (os:Os)(started:os.Started)(H:Type)(enc:TypeId×Value→H):
 ReturnsInHanded {} Tryz.checked os 10 .any (fun w args=>(Rows.sessionTearsSpec.pre enc Tryz.prog Tryz.f10 Rows.sessionTearsRow.domain false w args∧laidMetH Tryz.prog Rows.sessionTearsRow.laid w)∧sizedMet enc Tryz.prog Tryz.f10 (OpenSpec.ofChange Rows.sessionTearsSpec) false w args)
  (Rows.sessionTearsSpec.post enc Tryz.prog Tryz.f10 false true false false):=by
 refine handed_and_shaped (C:=Tryz.checked) (X:=fun w _=>laidMetH Tryz.prog Rows.sessionTearsRow.laid w) (fun _ _ _ hh h=>h.of_heap hh) law_own started (by kernel_rfl) Tryz.func10
  (ChangeSpec.witness_shaped (enc:=enc) (C:=Tryz.checked) (os:=os) (X:=fun w _=>laidMetH Tryz.prog Rows.sessionTearsRow.laid w) false (World.laidAll Tryz.prog os Rows.sessionTearsRow.laid) #[.slice none 0 0,.int .u16 0] 8 (World.laidAll_os _ _ _)
    (World.shaped_of_ZipB (by kernel_rfl) (by kernel_rfl)) (by kernel_rfl) (by kernel_rfl) (by kernel_rfl)
    (by rw[MakeChecks.laidMetH_plain _ _ _ (by kernel_rfl)];exact laidMet_laidAll _ (by kernel_rfl) (by kernel_rfl))) ?_
 intro W base args ds gs before hval0 hW hcnd hsz0 hL hsh _;have hsz:(DataW.weightsEach Tryz.prog (Tryz.f10.params.toList++Rows.sessionTearsSpec.plain.varTypes Tryz.prog) (ds++gs)).all (· ≤reachBytes)=true:=hsz0;have hEnv:EnvS W:=env_ofC (show laidMetH Tryz.prog Rows.sessionTearsRow.laid W from hL) hsh;clear hL hsz0 hsh;have hval:∀(j:Nat) t v,Tryz.f10.params[j]? =some t→args[j]? =some v→Value.okWide Tryz.prog W .any base t v:=hval0;have hW':=hW;obtain⟨p,q,hA0,hV,rfl,hfz,hnd⟩:=hW;have hA:DataW.TrodAll enc Tryz.prog W 0 (fun _=>true) true Tryz.f10.params.toList args.toList ds p:=hA0;rw[Tryz.params10]at hA hval hsz
 obtain⟨v0,v1,d0,d1,p0,p1,rfl,rfl,rfl,h0,h1⟩:=trodAll_two hA;obtain⟨rfl,rfl⟩:=trodVars_none hV;have k0:=h0;have lt0:∀x∈p0,x.block<W.heap.size:=by obtain⟨m,hm⟩:=k0;exact DataW.trod_lt m _ _ _ hm
 obtain⟨a0,len0,cap0,rfl⟩:=okWide_slice und_Cmds (hval 0 78 v0 rfl rfl);obtain⟨fuel0,hf0⟩:=h0;obtain⟨l0,w0,m0⟩:=reads_cmds (by simpa[Value.cells]using hf0) (weigh hsz 0 _ _ rfl rfl);obtain⟨n1,rfl,rfl,rfl,hn1⟩:=open_int und_u16 (hval 1 92 v1 rfl rfl) h1;clear hA0 hval0;refine(l_Tears l0 _ n1 W hEnv w0 m0 (u16_lo hn1) (u16_hi hn1)).mono fun e W' ⟨he,bel⟩=> ?_;subst he;exact⟨_,rfl,_,_,_,[],_,[],hW',trodAll_mk1 (shut_bool und_bool _),(trodAll_cons_mk (Below.trod law_laidOut (by kernel_rfl) (of_decide_eq_true (by kernel_rfl)) k0 bel lt0) (trodAll_cons_mk (shut_int und_u16 hn1) trodAll_mk0)),rfl,bel.frame _,fun h=>by cases h⟩
end Go.Proofs.YtclgllmipcbagaaGreatDoor.SessionTearsLaw
