/-
  Contracts of the program's schedule: the state that drifts: what a closure adds, count, take.
-/
import Derived.Test.YtlhbgainpeehoaaP14
namespace Go.Proofs.Ytlhbgainpeehoaa
set_option linter.unusedVariables false
open Go.RowKit

structure DrI (T0 : TypeId) (f : Fr) (w : World) (rv wv : Value) (way : List Int) (most : Int) (L T : Nat → Int) : Prop where
  st : StI T0 f w [rv, wv, .int .i64 most] L T
  way : w.ownsRow f.W0.heap.size T0 1 wv way.length (way.map (Value.int .i64))
  sep : ∀ k, wv.ownBlock = some k → k ≠ f.b ∧ k ≠ f.bl ∧ k ≠ f.bt ∧ k ≠ f.bv
section
variable {T0 : TypeId} {f : Fr} {w w' : World} {rv wv : Value} {way : List Int} {most : Int} {L T : Nat → Int}
theorem DrI.mono (h : DrI T0 f w rv wv way most L T) (hB : Below w.heap.size w w') : DrI T0 f w' rv wv way most L T := ⟨h.st.mono hB, owns_below h.way hB, h.sep⟩
theorem DrI.setL (h : DrI T0 f w rv wv way most L T) (u : Nat) (x : Int) : DrI T0 f (w.setCell ⟨f.bl, u, none⟩ (.int .i64 x)) rv wv way most (fun i => if i = u then x else L i) T :=
  ⟨h.st.setL u x, h.way.kept (grown_set w f.bl u _) (by cases hv : wv.ownBlock with | none => exact .inl rfl | some k => exact .inr (fun e => (h.sep k hv).2.1 (Option.some.inj e))), h.sep⟩
theorem DrI.setT (h : DrI T0 f w rv wv way most L T) (u : Nat) (x : Int) : DrI T0 f (w.setCell ⟨f.bt, u, none⟩ (.int .i64 x)) rv wv way most L (fun i => if i = u then x else T i) :=
  ⟨h.st.setT u x, h.way.kept (grown_set w f.bt u _) (by cases hv : wv.ownBlock with | none => exact .inl rfl | some k => exact .inr (fun e => (h.sep k hv).2.2.1 (Option.some.inj e))), h.sep⟩
theorem DrI.congr {L' T' : Nat → Int} (h : DrI T0 f w rv wv way most L T) (hL : ∀ u, u < f.N → L u = L' u) (hT : ∀ u, u < f.N → T u = T' u) : DrI T0 f w rv wv way most L' T' := ⟨h.st.congr hL hT, h.way, h.sep⟩
end

set_option maxRecDepth 100000 in
set_option maxHeartbeats 4000000 in
theorem d_take1 (f : Fr) (w : World) (rv wv : Value) (way : List Int) (most : Int) (L T : Nat → Int) (h : DrI 3 f w rv wv way most L T) (u n ba : Nat) (h1 : 1 ≤ n) (h2 : n ≤ 50) (hlen : way.length ≤ 1000000000)
    (hba : ba < w.heap.size) (hbb : ba ≠ f.b) (hsb : ∀ k, wv.ownBlock = some k → k ≠ ba) (hca : w.cell? ⟨ba, 0, none⟩ = some (.pointer (some ⟨f.b, 0, none⟩))) :
    Calls Try.prog 151 #[.int .i64 u, .int .i64 n, .pointer (some ⟨ba, 0, none⟩)] w fun e w' => e = .returned (.tuple #[]) ∧ ∃ wv', DrI 3 f w' rv wv' (way ++ List.replicate n (u : Int)) most L T ∧
      (∀ k, wv'.ownBlock = some k → wv.ownBlock = some k ∨ w.heap.size ≤ k) ∧ KeptB w w' (fun k => k = f.b ∨ wv.ownBlock = some k) := by
  obtain ⟨i1, hj, hy0, hy1, hy2⟩ := info_parts Try.infoInt
  obtain ⟨a, c, rfl⟩ := owns_slice h.way
  have c7 := (h.st.tailAt 1).1
  have f7 := (h.st.tailAt 1).2
  change w.cell? ⟨f.b, 7, none⟩ = some (.slice a way.length c) at c7
  change w.frozen? ⟨f.b, 7, none⟩ = false at f7
  have hlb := h.st.lts.1
  have H := hid h
  have hbase := h.st.below.size
  have HSB := hid hsb
  clear h hsb
  generalize hb : f.b = b at *
  have hbo : ∀ k, (Value.slice a way.length c).ownBlock = some k → k ≠ b := fun k hk => by have := (H.out.sep k hk).1; rwa [hb] at this
  have HBO := hid hbo
  have HBE := hid hb
  clear hbo hb
  go_enter Try.func151, Try.ntmps151
  let S : World → Prop := fun w' => w'.cell? ⟨ba, 0, none⟩ = some (.pointer (some ⟨b, 0, none⟩)) ∧ w'.cell? ⟨b, 7, none⟩ = some (.slice a way.length c)
  go_wp2
  (refine wp_region_text 12 [0,1,2,3,4,5,7,6,8,9,10,11] S (by kernel_rfl) (by kernel_rfl) (by intro _ _ d _ _ h; cases d <;> exact h) ?hS ?_; rotate_left; simp only [List.map_cons, List.map_nil, List.getD_cons_zero, List.getD_cons_succ, List.drop_succ_cons, List.drop_zero])
  case hS => exact ⟨hca, c7⟩
  (repeat (refine' wpSeq_take rfl _ (by rfl) ?_ ?_; rotate_left; focus (intro w' hS; (try dsimp only at hS); obtain ⟨s1, s2⟩ := hS; go_simp; (first | done | with_reducible rfl)); (try simp only [Act.put, List.setIfInBounds_toArray, List.set_cons_zero, List.set_cons_succ])))
  have hk1 : Below w.heap.size w (w.alloc (.cells #[.int .i64 u] 3)).drew := ((Below.refl _ _).alloc (Nat.le_refl _) _).drew
  have hS1 : S (w.alloc (.cells #[.int .i64 u] 3)).drew := ⟨(hk1.cell (p := ⟨ba, 0, none⟩) hba).trans hca, (hk1.cell (p := ⟨b, 7, none⟩) hlb).trans c7⟩
  refine wpSeq_call rfl (by rfl) (fun K hK => ?_)
  go_simp
  refine hK _ _ hS1 ?_
  clear hK K
  (try simp only [Act.put, List.setIfInBounds_toArray, List.set_cons_zero, List.set_cons_succ])
  have hrep := hid (c_Repeat u n h1 h2 w.heap.size 1 (w.alloc (.cells #[.int .i64 u] 3)).drew (by simp) (by simp))
  refine wpSeq_call rfl (by rfl) (fun K hK => ?_)
  go_simp
  refine hrep.out.mono ?_
  rintro e w2 ⟨br, rfl, ho2, hB2⟩
  have hk2 := bext hk1 (Nat.le_refl _) hB2
  have hS2 : S w2 := ⟨(hk2.cell (p := ⟨ba, 0, none⟩) hba).trans hca, (hk2.cell (p := ⟨b, 7, none⟩) hlb).trans c7⟩
  refine hK _ _ hS2 ?_
  clear hK K hrep hS1
  (try simp only [Act.put, List.setIfInBounds_toArray, List.set_cons_zero, List.set_cons_succ])
  have H2 := hid (H.out.mono hk2)
  have hs2 := hk2.size
  have hnews : Hid (∀ j v, ((List.replicate n (u : Int)).map (Value.int .i64))[j]? = some v → w2.cell? ((⟨br, 0, none⟩ : Addr).add j) = some v) := fun j v hv => by
    have hj' : j < ((List.replicate n (u : Int)).map (Value.int .i64)).length := (List.getElem?_eq_some_iff.1 hv).1
    have e2 : (⟨br, 0, none⟩ : Addr).add j = ⟨br, j, none⟩ := by unfold Addr.add; split <;> simp_all
    rw [e2, ho2.cellAt j (by simpa using hj'), hv]
  refine wpSeq_call rfl (by rfl) (fun K hK => ?_)
  refine wp_append_lies _ (.tmp 9) (.tmp 13) 25 rfl f.W0.heap.size 3 i1 (.int .i64 0) 1 8 Try.underInts hj hy0 hy1 hy2 rfl (by decide) (.slice a way.length c) way.length _ rfl H2.out.way ⟨br, 0, none⟩ n n ((List.replicate n (u : Int)).map (Value.int .i64)) rfl (by simp) hnews.out (ints_oneCell' _) (by omega) (by unfold maxLen; omega) (by omega) (by omega) _ rfl ?_
  intro bn cn w3 hown3 hgr3 hat hlt3
  have hbe := HBE.out
  have hsep := H2.out.sep
  have hbn : bn ≠ f.b ∧ bn ≠ f.bl ∧ bn ≠ f.bt ∧ bn ≠ f.bv := by
    rcases hat with e | e
    · exact hsep bn e
    · obtain ⟨q1, q2, q3, q4⟩ := H2.out.st.lts
      omega
  have hK3 : KeptB w2 w3 (fun k => (Value.slice a way.length c).ownBlock = some k) := grown_keptB hgr3
  have hB3 : Below f.W0.heap.size f.W0 w3 := H2.out.st.below.grown hgr3 H2.out.st.below.size (fun k hk => (H2.out.way.lt k hk).1)
  have hst3 := H2.out.st.kept hK3 (fun e => (hsep _ e).1 rfl) (fun e => (hsep _ e).2.1 rfl) (fun e => (hsep _ e).2.2.1 rfl) (fun e => (hsep _ e).2.2.2 rfl) hB3
  have hS3 : S w3 := by
    refine ⟨(hK3.cell ba 0 (by omega) (fun e => HSB.out _ e rfl)).trans hS2.1, (hK3.cell b 7 (by omega) (fun e => HBO.out _ e rfl)).trans hS2.2⟩
  have hf7 : w3.frozen? ⟨b, 7, none⟩ = false := by rw [← hbe]; exact (hst3.tailAt 1).2
  have hl7 : b < w3.heap.size := by rw [← hbe]; exact hst3.lts.1
  have hc7 := hS3.2
  have hca3 := hS3.1
  have hfin : Hid (DrI 3 f (w3.setCell ⟨b, 7, none⟩ (.slice (some ⟨bn, 0, none⟩) (way.length + n) cn)) rv (.slice (some ⟨bn, 0, none⟩) (way.length + n) cn) (way ++ List.replicate n (u : Int)) most L T ∧
      (∀ k, (Value.slice (some ⟨bn, 0, none⟩) (way.length + n) cn).ownBlock = some k → (Value.slice a way.length c).ownBlock = some k ∨ w.heap.size ≤ k) ∧
      KeptB w (w3.setCell ⟨b, 7, none⟩ (.slice (some ⟨bn, 0, none⟩) (way.length + n) cn)) (fun k => k = b ∨ (Value.slice a way.length c).ownBlock = some k)) := by
    rw [← hbe]
    refine ⟨⟨hst3.setTail 1 _, ?_, fun k hk => by obtain rfl := Option.some.inj hk; exact hbn⟩, fun k hk => ?_, ?_, fun k hk hne => ?_⟩
    · have := owns_other hown3 hbn.1 7 (.slice (some ⟨bn, 0, none⟩) (way.length + n) cn)
      rw [List.length_append, List.length_replicate, List.map_append]
      exact this
    · have e1 : bn = k := Option.some.inj hk
      subst e1
      rcases hat with e | e
      · exact .inl e
      · exact .inr (by omega)
    · have := hK3.1; simp; omega
    · have hne' : ¬ (k = f.b ∨ (Value.slice a way.length c).ownBlock = some k) := hne
      rw [Below.heap_setCell _ ⟨f.b, 7, none⟩ _ k (fun e => hne' (.inl e)), hK3.2 k (by omega) (fun e => hne' (.inr e))]
      exact hk2.block k hk
  refine hK _ _ hS3 ?_
  clear hK K hown3 hgr3 hat hK3 hB3 hst3 hsep hS2 hnews ho2 hS3 hbn
  (try simp only [Act.put, List.setIfInBounds_toArray, List.set_cons_zero, List.set_cons_succ])
  (repeat (refine' wpSeq_take rfl _ (by rfl) ?_ ?_; rotate_left; focus (intro w' hS; (try dsimp only at hS); obtain ⟨s1, s2⟩ := hS; go_simp; (first | done | with_reducible rfl)); (try simp only [Act.put, List.setIfInBounds_toArray, List.set_cons_zero, List.set_cons_succ])))
  refine wpSeq_nil ?_
  clear S hk1 hk2 hB2 hbe
  go_wp2
  go_end0
  exact ⟨rfl, _, hfin.out⟩

end Go.Proofs.Ytlhbgainpeehoaa
