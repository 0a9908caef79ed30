/-
  Contracts of the program's schedule: the state that drifts: what a closure adds, count, take. Contracts of the program's schedule: count and take of a state that drifts.
-/
import Derived.Test.YtbjoblkigbphhaaGreatP13
namespace Go.Proofs.YtbjoblkigbphhaaGreat
set_option linter.unusedVariables false
open Go.RowKit

structure DrI (T0 : TypeId) (f : Fr) (w : World) (rv wv : Value) (way : List Int) (most : Int) (L T : Nat → Int) : Prop where
  st : StI T0 f w [rv, wv, .int .i64 most] L T
  way : w.ownsRow f.W0.heap.size T0 1 wv way.length (way.map (Value.int .i64))
  sep : ∀ k, wv.ownBlock = some k → k ≠ f.b ∧ k ≠ f.bl ∧ k ≠ f.bt ∧ k ≠ f.bv
section
variable {T0 : TypeId} {f : Fr} {w w' : World} {rv wv : Value} {way : List Int} {most : Int} {L T : Nat → Int}
theorem DrI.mono (h : DrI T0 f w rv wv way most L T) (hB : Below w.heap.size w w') : DrI T0 f w' rv wv way most L T := ⟨h.st.mono hB, owns_below h.way hB, h.sep⟩
theorem DrI.setL (h : DrI T0 f w rv wv way most L T) (u : Nat) (x : Int) : DrI T0 f (w.setCell ⟨f.bl, u, none⟩ (.int .i64 x)) rv wv way most (fun i => if i = u then x else L i) T :=
  ⟨h.st.setL u x, h.way.kept (grown_set w f.bl u _) (by cases hv : wv.ownBlock with | none => exact .inl rfl | some k => exact .inr (fun e => (h.sep k hv).2.1 (Option.some.inj e))), h.sep⟩
theorem DrI.setT (h : DrI T0 f w rv wv way most L T) (u : Nat) (x : Int) : DrI T0 f (w.setCell ⟨f.bt, u, none⟩ (.int .i64 x)) rv wv way most L (fun i => if i = u then x else T i) :=
  ⟨h.st.setT u x, h.way.kept (grown_set w f.bt u _) (by cases hv : wv.ownBlock with | none => exact .inl rfl | some k => exact .inr (fun e => (h.sep k hv).2.2.1 (Option.some.inj e))), h.sep⟩
theorem DrI.congr {L' T' : Nat → Int} (h : DrI T0 f w rv wv way most L T) (hL : ∀ u, u < f.N → L u = L' u) (hT : ∀ u, u < f.N → T u = T' u) : DrI T0 f w rv wv way most L' T' := ⟨h.st.congr hL hT, h.way, h.sep⟩
end

set_option maxRecDepth 100000 in
set_option maxHeartbeats 4000000 in
theorem d_take1 (f : Fr) (w : World) (rv wv : Value) (way : List Int) (most : Int) (L T : Nat → Int) (h : DrI 3 f w rv wv way most L T) (u n ba : Nat) (h1 : 1 ≤ n) (h2 : n ≤ 50) (hlen : way.length ≤ 1000000000)
    (hba : ba < w.heap.size) (hbb : ba ≠ f.b) (hsb : ∀ k, wv.ownBlock = some k → k ≠ ba) (hca : w.cell? ⟨ba, 0, none⟩ = some (.pointer (some ⟨f.b, 0, none⟩))) :
    Calls Tryz.prog 133 #[.int .i64 u, .int .i64 n, .pointer (some ⟨ba, 0, none⟩)] w fun e w' => e = .returned (.tuple #[]) ∧ ∃ wv', DrI 3 f w' rv wv' (way ++ List.replicate n (u : Int)) most L T ∧
      (∀ k, wv'.ownBlock = some k → wv.ownBlock = some k ∨ w.heap.size ≤ k) ∧ KeptB w w' (fun k => k = f.b ∨ wv.ownBlock = some k) := by
  obtain ⟨i1, hj, hy0, hy1, hy2⟩ := info_parts Tryz.infoInt
  obtain ⟨a, c, rfl⟩ := owns_slice h.way
  have c7 := (h.st.tailAt 1).1
  have f7 := (h.st.tailAt 1).2
  change w.cell? ⟨f.b, 7, none⟩ = some (.slice a way.length c) at c7
  change w.frozen? ⟨f.b, 7, none⟩ = false at f7
  have hlb := h.st.lts.1
  have H := hid h
  have hbase := h.st.below.size
  have HSB := hid hsb
  clear h hsb
  generalize hb : f.b = b at *
  have hbo : ∀ k, (Value.slice a way.length c).ownBlock = some k → k ≠ b := fun k hk => by have := (H.out.sep k hk).1; rwa [hb] at this
  have HBO := hid hbo
  have HBE := hid hb
  clear hbo hb
  go_enter Tryz.func133, Tryz.ntmps133
  let S : World → Prop := fun w' => w'.cell? ⟨ba, 0, none⟩ = some (.pointer (some ⟨b, 0, none⟩)) ∧ w'.cell? ⟨b, 7, none⟩ = some (.slice a way.length c)
  go_wp2
  (refine wp_region_text 12 [0,1,2,3,4,5,7,6,8,9,10,11] S (by kernel_rfl) (by kernel_rfl) (by intro _ _ d _ _ h; cases d <;> exact h) ?hS ?_; rotate_left; simp only [List.map_cons, List.map_nil, List.getD_cons_zero, List.getD_cons_succ, List.drop_succ_cons, List.drop_zero])
  case hS => exact ⟨hca, c7⟩
  (repeat ((refine' wpSeq_take rfl _ (by rfl) ?_ ?_; rotate_left; focus (intro w' hS; (try dsimp only at hS); obtain ⟨s1, s2⟩ := hS; go_simp; (first | done | with_reducible rfl)); (try simp only [Act.put, List.setIfInBounds_toArray, List.set_cons_zero, List.set_cons_succ])); (try simp only [Act.put, List.setIfInBounds_toArray, List.set_cons_zero, List.set_cons_succ])))
  have hk1 : Below w.heap.size w (w.alloc (.cells #[.int .i64 u] 3)).drew := ((Below.refl _ _).alloc (Nat.le_refl _) _).drew
  have hS1 : S (w.alloc (.cells #[.int .i64 u] 3)).drew := ⟨(hk1.cell (p := ⟨ba, 0, none⟩) hba).trans hca, (hk1.cell (p := ⟨b, 7, none⟩) hlb).trans c7⟩
  refine wpSeq_call rfl (by rfl) (fun K hK => ?_)
  go_simp
  refine hK _ _ hS1 ?_
  clear hK K
  (try simp only [Act.put, List.setIfInBounds_toArray, List.set_cons_zero, List.set_cons_succ])
  have hrep := hid (c_Repeat u n h1 h2 w.heap.size 1 (w.alloc (.cells #[.int .i64 u] 3)).drew (by simp) (by simp))
  refine wpSeq_call rfl (by rfl) (fun K hK => ?_)
  go_simp
  refine hrep.out.mono ?_
  rintro e w2 ⟨br, rfl, ho2, hB2⟩
  have hk2 := bext hk1 (Nat.le_refl _) hB2
  have hS2 : S w2 := ⟨(hk2.cell (p := ⟨ba, 0, none⟩) hba).trans hca, (hk2.cell (p := ⟨b, 7, none⟩) hlb).trans c7⟩
  refine hK _ _ hS2 ?_
  clear hK K hrep hS1
  (try simp only [Act.put, List.setIfInBounds_toArray, List.set_cons_zero, List.set_cons_succ])
  have H2 := hid (H.out.mono hk2)
  have hs2 := hk2.size
  have hnews : Hid (∀ j v, ((List.replicate n (u : Int)).map (Value.int .i64))[j]? = some v → w2.cell? ((⟨br, 0, none⟩ : Addr).add j) = some v) := fun j v hv => by
    have hj' : j < ((List.replicate n (u : Int)).map (Value.int .i64)).length := (List.getElem?_eq_some_iff.1 hv).1
    have e2 : (⟨br, 0, none⟩ : Addr).add j = ⟨br, j, none⟩ := by unfold Addr.add; split <;> simp_all
    rw [e2, ho2.cellAt j (by simpa using hj'), hv]
  refine wpSeq_call rfl (by rfl) (fun K hK => ?_)
  refine wp_append_lies _ (.tmp 9) (.tmp 13) 25 rfl f.W0.heap.size 3 i1 (.int .i64 0) 1 8 Tryz.underInts hj hy0 hy1 hy2 rfl (by decide) (.slice a way.length c) way.length _ rfl H2.out.way ⟨br, 0, none⟩ n n ((List.replicate n (u : Int)).map (Value.int .i64)) rfl (by simp) hnews.out (ints_oneCell' _) (by omega) (by unfold maxLen; omega) (by omega) (by omega) _ rfl ?_
  intro bn cn w3 hown3 hgr3 hat hlt3
  have hbe := HBE.out
  have hsep := H2.out.sep
  have hbn : bn ≠ f.b ∧ bn ≠ f.bl ∧ bn ≠ f.bt ∧ bn ≠ f.bv := by
    rcases hat with e | e
    · exact hsep bn e
    · obtain ⟨q1, q2, q3, q4⟩ := H2.out.st.lts
      omega
  have hK3 : KeptB w2 w3 (fun k => (Value.slice a way.length c).ownBlock = some k) := grown_keptB hgr3
  have hB3 : Below f.W0.heap.size f.W0 w3 := H2.out.st.below.grown hgr3 H2.out.st.below.size (fun k hk => (H2.out.way.lt k hk).1)
  have hst3 := H2.out.st.kept hK3 (fun e => (hsep _ e).1 rfl) (fun e => (hsep _ e).2.1 rfl) (fun e => (hsep _ e).2.2.1 rfl) (fun e => (hsep _ e).2.2.2 rfl) hB3
  have hS3 : S w3 := by
    refine ⟨(hK3.cell ba 0 (by omega) (fun e => HSB.out _ e rfl)).trans hS2.1, (hK3.cell b 7 (by omega) (fun e => HBO.out _ e rfl)).trans hS2.2⟩
  have hf7 : w3.frozen? ⟨b, 7, none⟩ = false := by rw [← hbe]; exact (hst3.tailAt 1).2
  have hl7 : b < w3.heap.size := by rw [← hbe]; exact hst3.lts.1
  have hc7 := hS3.2
  have hca3 := hS3.1
  have hfin : Hid (DrI 3 f (w3.setCell ⟨b, 7, none⟩ (.slice (some ⟨bn, 0, none⟩) (way.length + n) cn)) rv (.slice (some ⟨bn, 0, none⟩) (way.length + n) cn) (way ++ List.replicate n (u : Int)) most L T ∧
      (∀ k, (Value.slice (some ⟨bn, 0, none⟩) (way.length + n) cn).ownBlock = some k → (Value.slice a way.length c).ownBlock = some k ∨ w.heap.size ≤ k) ∧
      KeptB w (w3.setCell ⟨b, 7, none⟩ (.slice (some ⟨bn, 0, none⟩) (way.length + n) cn)) (fun k => k = b ∨ (Value.slice a way.length c).ownBlock = some k)) := by
    rw [← hbe]
    refine ⟨⟨hst3.setTail 1 _, ?_, fun k hk => by obtain rfl := Option.some.inj hk; exact hbn⟩, fun k hk => ?_, ?_, fun k hk hne => ?_⟩
    · have := owns_other hown3 hbn.1 7 (.slice (some ⟨bn, 0, none⟩) (way.length + n) cn)
      rw [List.length_append, List.length_replicate, List.map_append]
      exact this
    · have e1 : bn = k := Option.some.inj hk
      subst e1
      rcases hat with e | e
      · exact .inl e
      · exact .inr (by omega)
    · have := hK3.1; simp; omega
    · have hne' : ¬ (k = f.b ∨ (Value.slice a way.length c).ownBlock = some k) := hne
      rw [Below.heap_setCell _ ⟨f.b, 7, none⟩ _ k (fun e => hne' (.inl e)), hK3.2 k (by omega) (fun e => hne' (.inr e))]
      exact hk2.block k hk
  refine hK _ _ hS3 ?_
  clear hK K hown3 hgr3 hat hK3 hB3 hst3 hsep hS2 hnews ho2 hS3 hbn
  (try simp only [Act.put, List.setIfInBounds_toArray, List.set_cons_zero, List.set_cons_succ])
  (repeat ((refine' wpSeq_take rfl _ (by rfl) ?_ ?_; rotate_left; focus (intro w' hS; (try dsimp only at hS); obtain ⟨s1, s2⟩ := hS; go_simp; (first | done | with_reducible rfl)); (try simp only [Act.put, List.setIfInBounds_toArray, List.set_cons_zero, List.set_cons_succ])); (try simp only [Act.put, List.setIfInBounds_toArray, List.set_cons_zero, List.set_cons_succ])))
  refine wpSeq_nil ?_
  clear S hk1 hk2 hB2 hbe
  go_wp2
  go_end0
  exact ⟨rfl, _, hfin.out⟩

end Go.Proofs.YtbjoblkigbphhaaGreat

namespace Go.Proofs.YtbjoblkigbphhaaGreat
set_option linter.unusedVariables false
open Go.RowKit

theorem DrI.setReady {T0 : TypeId} {f : Fr} {w : World} {rv wv : Value} {way : List Int} {most : Int} {L T : Nat → Int} (h : DrI T0 f w rv wv way most L T) (v : Value) : DrI T0 f (w.setCell ⟨f.b, 6, none⟩ v) v wv way most L T :=
  ⟨h.st.setTail 0 v, h.st.blk.owns h.way (fun e => (h.sep _ e).1 rfl) 6 v, h.sep⟩
theorem DrI.setMost {T0 : TypeId} {f : Fr} {w : World} {rv wv : Value} {way : List Int} {most : Int} {L T : Nat → Int} (h : DrI T0 f w rv wv way most L T) (m : Int) : DrI T0 f (w.setCell ⟨f.b, 8, none⟩ (.int .i64 m)) rv wv way m L T :=
  ⟨h.st.setTail 2 _, h.st.blk.owns h.way (fun e => (h.sep _ e).1 rfl) 8 _, h.sep⟩
theorem enter_dtake1 (args : Array Value) (w : World) : (callFunc 133 args).run Tryz.prog w = .ok (.enter 133 args) w := by kernel_rfl

set_option maxRecDepth 100000 in
set_option maxHeartbeats 2000000 in
theorem d_count (f : Fr) (w : World) (rv wv : Value) (way : List Int) (most : Int) (L T : Nat → Int) (h : DrI 3 f w rv wv way most L T) (hlen : way.length ≤ 1000000000) :
    Calls Tryz.prog 130 #[.pointer (some ⟨f.b, 0, none⟩)] w fun e w' => e = .returned (.int .i64 ((waitN f.g f.q f.N L).length + way.length : Nat)) ∧ ∃ v, DrI 3 f w' v wv way most L T ∧
      w'.ownsRow f.W0.heap.size 3 1 v (waitN f.g f.q f.N L).length ((waitN f.g f.q f.N L).map (Value.int .i64)) := by
  obtain ⟨_, hN⟩ := h.st.N12
  obtain ⟨c0, c1, c2, c3, c4, c5⟩ := h.st.cells
  obtain ⟨l1, l2, l3, l4⟩ := h.st.lts
  have hU := hid (p_unstable f.g f.q f.N hN L f.b f.bl f.cl f.bv f.cv w l1 l2 l4 c2 c3 c5 (fun k hk => (h.st.leftAt k hk).1) (fun k hk => h.st.valsAt k hk))
  have hwl := waitN_len f.g f.q f.N L
  have HS := hid h
  obtain ⟨aw, cw, rfl⟩ := owns_slice h.way
  clear h c0 c1 c2 c3 c4 c5
  have hst : Hid (∀ (w1 : World) (v : Value), Below w.heap.size w w1 → w1.ownsRow w.heap.size 3 1 v (waitN f.g f.q f.N L).length ((waitN f.g f.q f.N L).map (Value.int .i64)) →
      DrI 3 f (w1.setCell ⟨f.b, 6, none⟩ v) v (.slice aw way.length cw) way most L T ∧ (w1.setCell ⟨f.b, 6, none⟩ v).ownsRow f.W0.heap.size 3 1 v (waitN f.g f.q f.N L).length ((waitN f.g f.q f.N L).map (Value.int .i64)) ∧ w1.frozen? ⟨f.b, 6, none⟩ = false ∧ f.b < w1.heap.size ∧ w1.cell? ⟨f.b, 6, none⟩ = some rv ∧
      w1.cell? ⟨f.b, 7, none⟩ = some (.slice aw way.length cw)) := fun w1 v hB ho => by
    have h1 := HS.out.mono hB
    refine ⟨h1.setReady v, ?_, (h1.st.tailAt 0).2, h1.st.lts.1, (h1.st.tailAt 0).1, (h1.st.tailAt 1).1⟩
    refine owns_base (h1.st.blk.owns ho (fun e => ?_) 6 v) HS.out.st.below.size
    have := (ho.lt _ e).1
    omega
  generalize waitN f.g f.q f.N L = wl at *
  obtain ⟨b, hbe⟩ : ∃ b, b = f.b := ⟨_, rfl⟩
  rw [← hbe] at hU hst l1 ⊢
  clear hbe
  have ww : IntKind.i64.wrap ((wl.length : Int) + (way.length : Int)) = ((wl.length + way.length : Nat) : Int) := by rw [IntWalk.i64_in _ (by omega)]; omega
  go_enter Tryz.func130, Tryz.ntmps130
  go_wp2_with (go_at_call 126; refine hU.out.mono ?_; rintro e w1 ⟨v, rfl, ho, hB1⟩; obtain ⟨s1, s2, s3, s4, s5, s6⟩ := hst.out w1 v hB1 ho; obtain ⟨av, cv, rfl⟩ := owns_slice ho; have HS1 := hid s1; have HS2 := hid s2; clear s1 s2 ho)
  go_quiet (fail)
  go_wp2
  go_ret
  exact ⟨rfl, _, HS1.out.mono (below_dN (Below.refl _ _) _), owns_dN HS2.out _⟩

set_option maxRecDepth 100000 in
set_option maxHeartbeats 4000000 in
theorem d_takeWay (f : Fr) (w : World) (ar : Option Addr) (lr cr : Nat) (wv : Value) (way : List Int) (most : Int) (L T : Nat → Int) (h : DrI 3 f w (.slice ar lr cr) wv way most L T) (hlen : way.length ≤ 1000000000)
    (j : Nat) (hj : j < way.length) (_hlr : lr ≤ 100000) (v : Nat) (hv : way[j]?.getD 0 = v) (hvN : v < f.N) (hL : -10000000000 ≤ L v ∧ L v ≤ 10000000000) :
    Calls Tryz.prog 131 #[.pointer (some ⟨f.b, 0, none⟩), .int .i64 (lr + j : Nat)] w fun e w' => e = .returned (.tuple #[]) ∧ ∃ wv', DrI 3 f w' (.slice ar lr cr) wv' (way.eraseIdx j) most (fun u => if u = v then L v + 1 else L u) T := by
  obtain ⟨bw, cw, rfl, hbw1, hbw2⟩ := owns_some h.way (by omega)
  obtain ⟨l1, l2, l3, l4⟩ := h.st.lts
  have hsep := h.sep bw rfl
  have n1 := h.st.n1
  have c6 := (h.st.tailAt 0).1
  have c7 := (h.st.tailAt 1).1
  obtain ⟨_, _, _, c3, _⟩ := h.st.cells
  obtain ⟨hx, hfx⟩ := h.st.leftAt v hvN
  have hwj := owns_int h.way j hj
  rw [hv] at hwj
  change w.cell? ⟨f.b, 6, none⟩ = some (.slice ar lr cr) at c6
  change w.cell? ⟨f.b, 7, none⟩ = some (.slice (some ⟨bw, 0, none⟩) way.length cw) at c7
  have H := hid h
  have hbase := h.st.below.size
  clear h hv
  have hgt : ¬ (((lr + j : Nat) : Int) < (lr : Int)) := by omega
  have hgt2 : (lr : Int) ≤ ((lr + j : Nat) : Int) := by omega
  have hsub : ((lr + j : Nat) : Int) - (lr : Int) = (j : Int) := by omega
  have wj : IntKind.i64.wrap (j : Int) = j := IntWalk.i64_in _ (by omega)
  have wx : IntKind.i64.wrap (L v + 1) = L v + 1 := IntWalk.i64_in _ (by omega)
  have wj1 : IntKind.i64.wrap ((j : Int) + 1) = (j : Int) + 1 := IntWalk.i64_in _ (by omega)
  have hj1 : (j : Int) < (way.length : Int) := by omega
  have hj0 : (0 : Int) ≤ (j : Int) := by omega
  have hv1 : (v : Int) < (f.N : Int) := by omega
  have hv0 : (0 : Int) ≤ (v : Int) := by omega
  generalize ((lr + j : Nat) : Int) = ij at *
  generalize hLv : L v = x at *
  have hsB : Below w.heap.size w (w.alloc (.cells #[.pointer (some ⟨f.b, 0, none⟩)] 90)) := (Below.refl _ _).alloc (Nat.le_refl _) _
  go_enter Tryz.func131, Tryz.ntmps131
  go_upto_region 3 with fail
  obtain ⟨W1, hW1⟩ : ∃ W : World, W = w.alloc (.cells #[.pointer (some ⟨f.b, 0, none⟩)] 90) := ⟨_, rfl⟩
  rw [← hW1] at hsB
  have ea : W1.cell? ⟨w.heap.size, 0, none⟩ = some (.pointer (some ⟨f.b, 0, none⟩)) := by rw [hW1]; simp
  have hla : w.heap.size < W1.heap.size := by rw [hW1]; simp
  rw [← hW1]
  clear hW1
  have H1 := hid (H.out.mono hsB)
  have e3 := (hsB.cell (p := ⟨f.b, 3, none⟩) l1).trans c3
  have e7 := (hsB.cell (p := ⟨f.b, 7, none⟩) l1).trans c7
  have ex := (hsB.cell (p := ⟨f.bl, v, none⟩) l2).trans hx
  have ewj := (hsB.cell (p := ⟨bw, j, none⟩) hbw2).trans hwj
  have efx := (hsB.frozen (p := ⟨f.bl, v, none⟩) l2).trans hfx
  obtain ⟨k1, k2, k3, k4⟩ := H1.out.st.lts
  have hsBs := hsB.size
  clear c3 c6 c7 hx hwj hfx H
  let S : World → Prop := fun w' => w'.cell? ⟨w.heap.size, 0, none⟩ = some (.pointer (some ⟨f.b, 0, none⟩)) ∧ w'.cell? ⟨f.b, 3, none⟩ = some (.slice (some ⟨f.bl, 0, none⟩) f.N f.cl) ∧ w'.cell? ⟨f.b, 7, none⟩ = some (.slice (some ⟨bw, 0, none⟩) way.length cw) ∧
    w'.cell? ⟨bw, j, none⟩ = some (.int .i64 v) ∧ w'.cell? ⟨f.bl, v, none⟩ = some (.int .i64 x)
  (refine wp_region_text 15 [0,1,2,3,4,5,6,7,8,9,10,11,12,13,14] S (by kernel_rfl) (by kernel_rfl) (by intro _ _ d _ _ h; cases d <;> exact h) ?hS ?_; rotate_left; simp only [List.map_cons, List.map_nil, List.getD_cons_zero, List.getD_cons_succ, List.drop_succ_cons, List.drop_zero])
  case hS => exact ⟨ea, e3, e7, ewj, ex⟩
  (repeat ((refine' wpSeq_take rfl _ (by rfl) ?_ ?_; rotate_left; focus (intro w' hS; (try dsimp only at hS); obtain ⟨s1, s2, s3, s4, s5⟩ := hS; go_simp; (first | done | with_reducible rfl)); (try simp only [Act.put, List.setIfInBounds_toArray, List.set_cons_zero, List.set_cons_succ])); (try simp only [Act.put, List.setIfInBounds_toArray, List.set_cons_zero, List.set_cons_succ])))
  refine wpSeq_nil ?_
  clear S
  go_upto_region 4 with fail
  obtain ⟨W2, hW2⟩ : ∃ W : World, W = (W1.setCell ⟨f.bl, v, none⟩ (.int .i64 (x + 1))).drew := ⟨_, rfl⟩
  have H2 : Hid (DrI 3 f W2 (.slice ar lr cr) (.slice (some ⟨bw, 0, none⟩) way.length cw) way most (fun u => if u = v then x + 1 else L u) T) := by
    show DrI _ _ _ _ _ _ _ _ _
    rw [hW2]; exact (H1.out.setL v (x + 1)).mono (Below.drew (Below.refl _ _))
  have hne : w.heap.size ≠ f.bl := by omega
  have ga : W2.cell? ⟨w.heap.size, 0, none⟩ = some (.pointer (some ⟨f.b, 0, none⟩)) := by
    rw [hW2]
    refine Eq.trans ?_ ea
    refine World.cell?_of_block ?_
    exact Below.heap_setCell W1 ⟨f.bl, v, none⟩ _ _ hne
  have hl2 : w.heap.size < W2.heap.size := by rw [hW2]; simpa using hla
  rw [← hW2]
  clear hW2 H1 e3 e7 ex ewj efx ea
  obtain ⟨k1, k2, k3, k4⟩ := H2.out.st.lts
  have g7 := (H2.out.st.tailAt 1).1
  have gf7 := (H2.out.st.tailAt 1).2
  change W2.cell? ⟨f.b, 7, none⟩ = some (.slice (some ⟨bw, 0, none⟩) way.length cw) at g7
  change W2.frozen? ⟨f.b, 7, none⟩ = false at gf7
  have hbwl : bw < w.heap.size := hbw2
  have hdel : Hid (Calls Tryz.prog 132 #[.slice (some ⟨bw, 0, none⟩) way.length cw, .int .i64 j, .int .i64 ((j : Int) + 1)] W2.drew fun e w' => e = .returned (.slice (some ⟨bw, 0, none⟩) (way.length - 1) cw) ∧
      w'.ownsRow f.W0.heap.size 3 1 (.slice (some ⟨bw, 0, none⟩) (way.length - 1) cw) (way.length - 1) ((way.eraseIdx j).map (Value.int .i64)) ∧ KeptB W2.drew w' (fun k => k = bw) ∧ (∀ W0 : World, ∀ B, Below B W0 W2.drew → B ≤ bw → Below B W0 w')) := by
    have := c_Delete way bw cw j f.W0.heap.size W2.drew H2.out.way.drew hj
    rwa [show ((j + 1 : Nat) : Int) = (j : Int) + 1 by omega] at this
  let S : World → Prop := fun w' => w'.cell? ⟨w.heap.size, 0, none⟩ = some (.pointer (some ⟨f.b, 0, none⟩)) ∧ w'.cell? ⟨f.b, 7, none⟩ = some (.slice (some ⟨bw, 0, none⟩) way.length cw)
  (refine wp_region_text 11 [0,1,2,3,4,5,6,7,8,9,10] S (by kernel_rfl) (by kernel_rfl) (by intro _ _ d _ _ h; cases d <;> exact h) ?hS ?_; rotate_left; simp only [List.map_cons, List.map_nil, List.getD_cons_zero, List.getD_cons_succ, List.drop_succ_cons, List.drop_zero])
  case hS => exact ⟨ga, g7⟩
  (repeat ((refine' wpSeq_take rfl _ (by rfl) ?_ ?_; rotate_left; focus (intro w' hS; (try dsimp only at hS); obtain ⟨s1, s2⟩ := hS; go_simp; (first | done | with_reducible rfl)); (try simp only [Act.put, List.setIfInBounds_toArray, List.set_cons_zero, List.set_cons_succ])); (try simp only [Act.put, List.setIfInBounds_toArray, List.set_cons_zero, List.set_cons_succ])))
  refine wpSeq_call rfl (by rfl) (fun K hK => ?_)
  go_simp
  refine hdel.out.mono ?_
  rintro e w3 ⟨rfl, ho3, hK3, hB3⟩
  have hsz3 : W2.heap.size ≤ w3.heap.size := hK3.1
  have hS3 : S w3 := ⟨(hK3.cell w.heap.size 0 hl2 (fun e => by have e' : w.heap.size = bw := e; omega)).trans ga, (hK3.cell f.b 7 k1 (fun e => hsep.1 (Eq.symm e))).trans g7⟩
  have hst3 : StI 3 f w3 [.slice ar lr cr, .slice (some ⟨bw, 0, none⟩) way.length cw, .int .i64 most] (fun u => if u = v then x + 1 else L u) T :=
    H2.out.st.drew.kept hK3 (fun e => hsep.1 (Eq.symm e)) (fun e => hsep.2.1 (Eq.symm e)) (fun e => hsep.2.2.1 (Eq.symm e)) (fun e => hsep.2.2.2 (Eq.symm e)) (hB3 _ _ H2.out.st.below.drew hbw1)
  have hc7 := hS3.2
  have hf7 := (hst3.tailAt 1).2
  change w3.frozen? ⟨f.b, 7, none⟩ = false at hf7
  have hl7 := hst3.lts.1
  have hca3 := hS3.1
  have hfin : Hid (DrI 3 f (w3.setCell ⟨f.b, 7, none⟩ (.slice (some ⟨bw, 0, none⟩) (way.length - 1) cw)) (.slice ar lr cr) (.slice (some ⟨bw, 0, none⟩) (way.length - 1) cw) (way.eraseIdx j) most (fun u => if u = v then x + 1 else L u) T) := by
    refine ⟨hst3.setTail 1 _, ?_, fun k hk => by obtain rfl := Option.some.inj hk; exact hsep⟩
    have := owns_other ho3 (fun e => hsep.1 e) 7 (.slice (some ⟨bw, 0, none⟩) (way.length - 1) cw)
    rw [List.length_eraseIdx, if_pos hj]
    exact this
  refine hK _ _ hS3 ?_
  clear hK K ho3 hK3 hB3 hst3 hS3 hdel H2
  (try simp only [Act.put, List.setIfInBounds_toArray, List.set_cons_zero, List.set_cons_succ])
  (repeat ((refine' wpSeq_take rfl _ (by rfl) ?_ ?_; rotate_left; focus (intro w' hS; (try dsimp only at hS); obtain ⟨s1, s2⟩ := hS; go_simp; (first | done | with_reducible rfl)); (try simp only [Act.put, List.setIfInBounds_toArray, List.set_cons_zero, List.set_cons_succ])); (try simp only [Act.put, List.setIfInBounds_toArray, List.set_cons_zero, List.set_cons_succ])))
  refine wpSeq_nil ?_
  clear S
  go_wp2
  go_returns
  exact ⟨rfl, _, hfin.out⟩

/-- What is on its way when v has fired towards the vertices below u. -/
def wayTo (g : G) (v : Nat) (way : List Int) : Nat → List Int
  | 0 => way
  | u + 1 => wayTo g v way u ++ List.replicate (rowsF g v u).toNat (u : Int)
theorem wayTo_len {g : G} (hg : Gok g) (v : Nat) (way : List Int) : ∀ u, (wayTo g v way u).length ≤ way.length + 50 * u ∧ way.length ≤ (wayTo g v way u).length
  | 0 => ⟨Nat.le_refl _, Nat.le_refl _⟩
  | u + 1 => by
    have ih := wayTo_len hg v way u
    have hb := rowsF_bd hg v u
    unfold wayTo
    rw [List.length_append, List.length_replicate]
    omega

set_option maxRecDepth 100000 in
set_option maxHeartbeats 4000000 in
theorem d_takeFire (f : Fr) (w : World) (br lr cr x i : Nat) (wv : Value) (way : List Int) (most : Int) (L T : Nat → Int) (h : DrI 3 f w (.slice (some ⟨br, 0, none⟩) lr cr) wv way most L T) (hlen : way.length ≤ 900000000)
    (hbr : br < w.heap.size) (hi : i < lr) (hx : w.cell? ⟨br, i, none⟩ = some (.int .i64 x)) (hxN : x < f.N) (hL : ∀ u, u < f.N → -10000000000 ≤ L u ∧ L u ≤ 10000000000) (hT : 0 ≤ T x ∧ T x ≤ 10000000000) (hm : 0 ≤ most ∧ most ≤ 10000000000) :
    Calls Tryz.prog 131 #[.pointer (some ⟨f.b, 0, none⟩), .int .i64 i] w fun e w' => e = .returned (.tuple #[]) ∧ ∃ wv', DrI 3 f w' (.slice (some ⟨br, 0, none⟩) lr cr) wv' (wayTo f.g x way f.N) (max most ((wayTo f.g x way f.N).length : Int))
      (fun u => if u = x then L u - valence f.g x else L u) (fun u => if u = x then T u + 1 else T u) := by
  have hmf : ∀ (fn : Fn) (first cap : Array Value) (w : World), (Instr.makeFunc fn first cap).run Tryz.prog w = .ok (.func fn first cap) w := fun _ _ _ _ => rfl
  have hvb := val_bd h.st.gok x
  have HRB := hid (fun u => rowsF_bd h.st.gok x u)
  have HWL := hid (fun u => wayTo_len h.st.gok x way u)
  obtain ⟨_, hN⟩ := h.st.N12
  obtain ⟨l1, l2, l3, l4⟩ := h.st.lts
  have c6 := (h.st.tailAt 0).1
  change w.cell? ⟨f.b, 6, none⟩ = some (.slice (some ⟨br, 0, none⟩) lr cr) at c6
  have hi1 : (i : Int) < (lr : Int) := by omega
  have hi0 : (0 : Int) ≤ (i : Int) := by omega
  have hi2 : ¬ (lr : Int) ≤ (i : Int) := by omega
  have HSA := hid (fun w1 (hB : Below w.heap.size w w1) => h.mono hB)
  have hsepw : ∀ k, wv.ownBlock = some k → k < w.heap.size := fun k hk => (h.way.lt k hk).2
  -- behind leave
  have hlv : Hid (∀ w1 : World, Below w.heap.size w w1 → Calls Tryz.prog 127 #[.pointer (some ⟨f.b, 0, none⟩), .int .i64 x] w1 fun e w2 => e = .returned (.tuple #[]) ∧
      DrI 3 f w2 (.slice (some ⟨br, 0, none⟩) lr cr) wv way most (fun u => if u = x then L u - valence f.g x else L u) (fun u => if u = x then T u + 1 else T u) ∧ (∀ b o, b < w1.heap.size → b ≠ f.bl → b ≠ f.bt → w2.cell? ⟨b, o, none⟩ = w1.cell? ⟨b, o, none⟩) ∧ w1.heap.size ≤ w2.heap.size) := fun w1 hB => by
    have h1 := HSA.out w1 hB
    obtain ⟨c0, c1, c2, c3, c4, c5⟩ := h1.st.cells
    obtain ⟨m1, m2, m3, m4⟩ := h1.st.lts
    have hLx := hL x hxN
    refine (p_leave f.N x hxN f.b f.bl f.cl f.bt f.ct f.bv f.cv (L x) (valence f.g x) (T x) w1 m1 m2 m3 m4 h1.st.n1 h1.st.n2 h1.st.n4 c3 c4 c5 (h1.st.leftAt x hxN).1 (h1.st.valsAt x hxN) (h1.st.timesAt x hxN).1 (h1.st.leftAt x hxN).2 (h1.st.timesAt x hxN).2
      (by omega) (by omega) (by omega) (by omega) (by omega) (by omega)).mono ?_
    rintro e w2 ⟨rfl, rfl⟩
    refine ⟨rfl, (((h1.mono (Below.drew (Below.refl _ _))).setL x _).setT x _).congr (fun u _ => ?_) (fun u _ => ?_), fun b o hb n1 n2 => ?_, by simp⟩
    · by_cases e : u = x
      · subst e; simp
      · simp [e]
    · by_cases e : u = x
      · subst e; simp
      · simp [e]
    · refine World.cell?_of_block ?_
      exact ((Below.heap_setCell (w1.drew.setCell ⟨f.bl, x, none⟩ _) ⟨f.bt, x, none⟩ _ b n2).trans (Below.heap_setCell w1.drew ⟨f.bl, x, none⟩ _ b n1))
  -- the neighbours
  have hnb : Hid (∀ (w2 : World) (ba : Nat), DrI 3 f w2 (.slice (some ⟨br, 0, none⟩) lr cr) wv way most (fun u => if u = x then L u - valence f.g x else L u) (fun u => if u = x then T u + 1 else T u) → ba < w2.heap.size → ba ≠ f.b → (∀ k, wv.ownBlock = some k → k ≠ ba) → w2.cell? ⟨ba, 0, none⟩ = some (.pointer (some ⟨f.b, 0, none⟩)) →
      Calls Tryz.prog 128 #[.pointer (some ⟨f.b, 0, none⟩), .int .i64 x, .func (.func 133) #[] #[.pointer (some ⟨ba, 0, none⟩)]] w2 fun e w3 => e = .returned (.tuple #[]) ∧
      (∃ wv', DrI 3 f w3 (.slice (some ⟨br, 0, none⟩) lr cr) wv' (wayTo f.g x way f.N) most (fun u => if u = x then L u - valence f.g x else L u) (fun u => if u = x then T u + 1 else T u)) ∧ ba < w3.heap.size ∧ w3.cell? ⟨ba, 0, none⟩ = some (.pointer (some ⟨f.b, 0, none⟩))) := fun w2 ba h2 hba hne hsb hca => by
    obtain ⟨c0, c1, _⟩ := h2.st.cells
    obtain ⟨m1, m2, m3, m4⟩ := h2.st.lts
    refine (p_neighbours f.g h2.st.gok f.N h2.st.hn x hxN f.b f.ev w2 m1 c0 c1 (h2.st.edges.below h2.st.below) 133 enter_dtake1 (.pointer (some ⟨ba, 0, none⟩))
      (fun br' u w' => (∃ wv', DrI 3 f w' (.slice (some ⟨br, 0, none⟩) lr cr) wv' (wayTo f.g x way u) most (fun u => if u = x then L u - valence f.g x else L u) (fun u => if u = x then T u + 1 else T u) ∧ ∀ k, wv'.ownBlock = some k → k ≠ ba ∧ k ≠ br') ∧ ba < w'.heap.size ∧ w'.cell? ⟨ba, 0, none⟩ = some (.pointer (some ⟨f.b, 0, none⟩)) ∧ br' ≠ f.b) ?_ ?_ ?_).mono ?_
    · intro w' br' hB h1 h3
      exact ⟨⟨wv, h2.mono hB, fun k hk => ⟨hsb k hk, by have := (h2.way.lt k hk).2; omega⟩⟩, Nat.lt_of_lt_of_le hba hB.size, (hB.cell (p := ⟨ba, 0, none⟩) hba).trans hca, by omega⟩
    · rintro br' u w' hu h0 ⟨⟨wv', h3, h5⟩, h4⟩
      have := HRB.out u
      refine ⟨⟨wv', ?_, h5⟩, h4⟩
      have e : wayTo f.g x way (u + 1) = wayTo f.g x way u := by
        show wayTo f.g x way u ++ List.replicate (rowsF f.g x u).toNat (u : Int) = _
        rw [show (rowsF f.g x u).toNat = 0 by omega]; simp
      rw [e]; exact h3
    · rintro br' u w' hu h0 h1 h3 ⟨⟨wv', h4, h8⟩, h5, h6, h7⟩
      have hrb := HRB.out u
      have hwl := HWL.out u
      have hN2 : u ≤ 12 := by omega
      obtain ⟨n, hn⟩ : ∃ n : Nat, rowsF f.g x u = n := ⟨(rowsF f.g x u).toNat, by omega⟩
      have e : wayTo f.g x way (u + 1) = wayTo f.g x way u ++ List.replicate n (u : Int) := by
        show wayTo f.g x way u ++ List.replicate (rowsF f.g x u).toNat (u : Int) = _
        rw [hn, Int.toNat_natCast]
      rw [hn] at h0 hrb ⊢
      refine (d_take1 f w' _ wv' (wayTo f.g x way u) most _ _ h4 u n ba (by omega) (by omega) (by omega) h5 hne (fun k hk => (h8 k hk).1) h6).mono ?_
      rintro e' w3 ⟨rfl, wv2, h9, h10, h11⟩
      have hs3 : w'.heap.size ≤ w3.heap.size := h11.1
      refine ⟨rfl, ⟨⟨wv2, by rw [e]; exact h9, fun k hk => ?_⟩, by omega, ?_, h7⟩, by omega, ?_⟩
      · rcases h10 k hk with e2 | e2
        · exact h8 k e2
        · omega
      · refine (h11.cell ba 0 h5 (fun e2 => ?_)).trans h6
        rcases e2 with e2 | e2
        · exact hne e2
        · exact (h8 _ e2).1 rfl
      · refine h11.2 br' h3 (fun e2 => ?_)
        rcases e2 with e2 | e2
        · exact h7 e2
        · exact (h8 _ e2).2 rfl
    · rintro e w3 ⟨rfl, br', ⟨wv', h3, _⟩, h4, h5, _⟩
      exact ⟨rfl, ⟨wv', h3⟩, h4, h5⟩
  have HWN := hid (HWL.out f.N)
  have hbpos : Hid (∀ w3 wv', DrI 3 f w3 (.slice (some ⟨br, 0, none⟩) lr cr) wv' (wayTo f.g x way f.N) most (fun u => if u = x then L u - valence f.g x else L u) (fun u => if u = x then T u + 1 else T u) →
      ∃ a c, wv' = .slice a (wayTo f.g x way f.N).length c ∧ w3.cell? ⟨f.b, 7, none⟩ = some (.slice a (wayTo f.g x way f.N).length c) ∧ w3.cell? ⟨f.b, 8, none⟩ = some (.int .i64 most) ∧ w3.frozen? ⟨f.b, 8, none⟩ = false ∧ f.b < w3.heap.size ∧
        Hid (DrI 3 f (w3.drew.setCell ⟨f.b, 8, none⟩ (.int .i64 (max most ((wayTo f.g x way f.N).length : Int)))) (.slice (some ⟨br, 0, none⟩) lr cr) (.slice a (wayTo f.g x way f.N).length c) (wayTo f.g x way f.N) (max most ((wayTo f.g x way f.N).length : Int)) (fun u => if u = x then L u - valence f.g x else L u) (fun u => if u = x then T u + 1 else T u))) := fun w3 wv' h3 => by
    obtain ⟨a, c, rfl⟩ := owns_slice h3.way
    exact ⟨a, c, rfl, (h3.st.tailAt 1).1, (h3.st.tailAt 2).1, (h3.st.tailAt 2).2, h3.st.lts.1, (h3.mono (Below.drew (Below.refl _ _))).setMost _⟩
  have hB0 : Below w.heap.size w (w.alloc (.cells #[.pointer (some ⟨f.b, 0, none⟩)] 90)) := (Below.refl _ _).alloc (Nat.le_refl _) _
  have HSEPW := hid hsepw
  have hNN := hid hN
  clear HSA HRB hL hvb HWL hsepw h hlen hN
  generalize wayTo f.g x way f.N = way' at *
  go_enter Tryz.func131, Tryz.ntmps131
  go_upto_region 8 with (first
    | (go_at_call 127; refine (hlv.out _ hB0).mono ?_; rintro e w2 ⟨rfl, h2, r1, hs2⟩; have h2H := hid h2; clear h2; (simp only [World.size_alloc] at hs2); have d1 := r1 w.heap.size 0 (by simp) (by omega) (by omega); (simp only [World.size_alloc] at r1); (simp at d1))
    | (go_at_call 128; refine (hnb.out w2 w.heap.size h2H.out (by omega) (by omega) (fun k hk => by have := HSEPW.out k hk; omega) d1).mono ?_; rintro e w3 ⟨rfl, ⟨wv', h3⟩, hba3, hca3⟩; obtain ⟨a3, c3, rfl, g7, g8, gf8, gl8, hfin⟩ := hbpos.out w3 wv' h3; clear h3))
  let S : World → Prop := fun w' => w'.cell? ⟨w.heap.size, 0, none⟩ = some (.pointer (some ⟨f.b, 0, none⟩)) ∧ w'.cell? ⟨f.b, 7, none⟩ = some (.slice a3 way'.length c3) ∧ w'.cell? ⟨f.b, 8, none⟩ = some (.int .i64 most)
  (refine wp_region_text 13 [0,1,2,3,4,5,6,7,8,9,10,11,12] S (by kernel_rfl) (by kernel_rfl) (by intro _ _ d _ _ h; cases d <;> exact h) ?hS ?_; rotate_left; simp only [List.map_cons, List.map_nil, List.getD_cons_zero, List.getD_cons_succ, List.drop_succ_cons, List.drop_zero])
  case hS => exact ⟨hca3, g7, g8⟩
  (repeat ((refine' wpSeq_take rfl _ (by rfl) ?_ ?_; rotate_left; focus (intro w' hS; (try dsimp only at hS); obtain ⟨s1, s2, s3⟩ := hS; go_simp; (first | done | with_reducible rfl)); (try simp only [Act.put, List.setIfInBounds_toArray, List.set_cons_zero, List.set_cons_succ])); (try simp only [Act.put, List.setIfInBounds_toArray, List.set_cons_zero, List.set_cons_succ])))
  refine wpSeq_nil ?_
  clear S
  go_wp2
  go_returns
  exact ⟨rfl, _, hfin.out⟩

end Go.Proofs.YtbjoblkigbphhaaGreat
