/-
  Contract of the parallel game's iterator: rounds. A region that draws its order, walked under an invariant of what has been done.
-/
import Derived.Test.YtbjoblkigbphhaaGreatQ3
import Derived.Orders
import Derived.Test.YtbjoblkigbphhaaGreatLib
namespace Go.Proofs.YtbjoblkigbphhaaGreat
set_option linter.unusedVariables false
open Go.RowKit Go.Shelf

/-- A slice that lies in no block that p names. -/
def offP (p : Nat → Prop) (v : Value) : Prop := ∀ a n c, v = .slice (some a) n c → ¬ p a.block
theorem cell_cells {W : World} {a : Addr} {v : Value} (h : W.cell? a = some v) : ∃ o : Obj, W.heap[a.block]? = some o ∧ o.isCells = true := by
  unfold World.cell? at h
  cases ho : W.heap[a.block]? with
  | none => simp [ho] at h
  | some o => exact ⟨o, rfl, by cases o <;> simp_all [Obj.isCells]⟩
section
variable {n₀ : Nat} {p : Nat → Prop} {W W' : World}
theorem KeptC.cell (h : KeptC n₀ p W W') {a : Addr} {v : Value} (hc : W.cell? a = some v) (hp : ¬ p a.block) : W'.cell? a = some v := by
  obtain ⟨o, ho, hi⟩ := cell_cells hc
  have := h.same _ o ho hi hp
  unfold World.cell? at hc ⊢
  rw [this]; rw [ho] at hc; exact hc
theorem IntsR.keptC {v : Value} {xs : List Int} (h : IntsR W v xs) (hk : KeptC n₀ p W W') (hp : offP p v) : IntsR W' v xs := by
  obtain ⟨a, cap, rfl, h2, h3, h4, h5⟩ := h
  refine ⟨a, cap, rfl, h2, h3, h4, ?_⟩
  rcases h5 with h5 | ⟨b, off, rfl, hl, hc⟩
  · exact .inl h5
  · refine .inr ⟨b, off, rfl, Nat.lt_of_lt_of_le hl hk.low.size, fun i hi => ?_⟩
    rw [List.getElem?_eq_getElem hi]
    exact hk.cell ((hc i hi).trans (List.getElem?_eq_getElem hi)) (hp ⟨b, off, none⟩ _ _ rfl)
theorem boxed_keptC {B : Nat} {t : TypeId} {v : Value} (h : Boxed W B t v) (hk : KeptC n₀ p W W') (hp : ¬ p B) : Boxed W' B t v := hk.same _ _ h rfl hp
theorem KeptC.set (W : World) (D : Nat) (v : Value) : KeptC D (· = D) W (W.setCell ⟨D, 0, none⟩ v) :=
  ⟨(Below.refl D W).setCell (p := ⟨D, 0, none⟩) (Nat.le_refl D) v, fun k o hk _ hp => (Below.heap_setCell W ⟨D, 0, none⟩ v k hp).trans hk⟩
theorem grown_below {W W' : World} (h : Below W.heap.size W W') : W.grownBy W' none := ⟨h.os, h.tape, h.output, h.size, fun k hk _ => h.block k hk⟩
theorem offP_own {w : World} {base : Nat} {t : TypeId} {sz : Nat} {v : Value} {n : Nat} {cs : List Value} (h : w.ownsRow base t sz v n cs) (hp : ∀ k, base ≤ k → ¬ p k) : offP p v := by
  rintro a m c rfl
  rcases h.2 with h2 | ⟨b, c, cells, hv, hb, r⟩
  · cases h2.1
  · cases hv; exact hp _ hb
end
theorem boxed_ne {w : World} {b b' : Nat} {t t' : TypeId} {v v' : Value} (h : Boxed w b t v) (h' : Boxed w b' t' v') (hne : t ≠ t') : b ≠ b' := by
  rintro rfl
  have h1 : w.heap[b]? = some (.cells #[v] t (0, 0)) := h
  have h2 : w.heap[b]? = some (.cells #[v'] t' (0, 0)) := h'
  rw [h1] at h2
  injection h2 with h2
  injection h2 with _ h2
  exact hne h2
theorem boxed_below {w w' : World} {b : Nat} {t : TypeId} {v : Value} (h : Boxed w b t v) (hB : Below w.heap.size w w') : Boxed w' b t v := (hB.block b h.lt).trans h
theorem nr_ne {w : World} {b cb : Nat} {t : TypeId} {u : Value} {base n cc : Nat} {xs : List Value} {e : TypeId} {sz : Nat} (hb : Boxed w b t u) (hte : t ≠ e) (ho : w.ownsRow base e sz (.slice (some ⟨cb, 0, none⟩) n cc) n xs) : cb ≠ b := fun e => hb.not_row hte ho (by rw [← e]; rfl)
theorem blk_ne {w : World} {b b' : Nat} {t t' : TypeId} {v v' : Array Value} (h : Blk w b v t) (h' : Blk w b' v' t') (hne : t ≠ t') : b ≠ b' := by
  rintro rfl
  have h1 : w.heap[b]? = some (.cells v t (0, 0)) := h
  have h2 : w.heap[b]? = some (.cells v' t' (0, 0)) := h'
  rw [h1] at h2
  injection h2 with h2
  injection h2 with _ h2
  exact hne h2
theorem rndTo_bd {g : G} (hg : Gok g) {N : Nat} (hN : N ≤ 12) (q : Int) (s : St) (c : Int) (h : ∀ u, u < N → -c ≤ s.L u ∧ s.L u ≤ c) : ∀ k u, u < N → -(c + 8400 * k) ≤ (rndTo g q N s k).L u ∧ (rndTo g q N s k).L u ≤ c + 8400 * k
  | 0, u, hu => by have := h u hu; show _ ≤ s.L u ∧ s.L u ≤ _; omega
  | k + 1, u, hu => by
    have h1 := fireAll_bd hg (rdyN g q N (rndTo g q N s k).L) (c + 8400 * k) _ (rndTo_bd hg hN q s c h k) u hu
    have h2 := rdy_len g q N (rndTo g q N s k).L
    show _ ≤ (rnd g q N (rndTo g q N s k)).L u ∧ (rnd g q N (rndTo g q N s k)).L u ≤ _
    rw [rnd_L]
    omega

/-- What lies there between two rounds. -/
structure Rd (g : G) (q : Int) (N : Nat) (s : St) (base b bv go : Nat) (bs : Nat → Nat) (n₁ Bx Dx : Nat) (p : Nat → Prop) (J : List (Value × Value) → World → Prop) (pre : List (Value × Value)) (lv : Value) (wr : World) : Prop where
  j : J pre wr
  bd : Bd wr base b bv go bs q N (fun v => valence g v) (rowsF g)
  bx : Boxed wr Bx 113 (.pointer (some ⟨b, 0, none⟩))
  dx : ∃ dv, Boxed wr Dx 26 dv ∧ IntsR wr dv (vecOf N (rndTo g q N s pre.length).L) ∧ offP (fun k => p k ∨ k = Dx) dv
  row : wr.ownsRow n₁ 3 1 lv (rdyN g q N (rndTo g q N s pre.length).L).length ((rdyN g q N (rndTo g q N s pre.length).L).map (Value.int .i64))
  sz : n₁ ≤ wr.heap.size
/-- What a round finds: the vertices, and the divisor behind. -/
def EX (g : G) (q : Int) (N : Nat) (s : St) (n₁ : Nat) (pre : List (Value × Value)) (x : Value × Value) (W : World) : Prop :=
  rdyN g q N (rndTo g q N s pre.length).L ≠ [] ∧
  W.ownsRow n₁ 3 1 x.1 (rdyN g q N (rndTo g q N s pre.length).L).length ((rdyN g q N (rndTo g q N s pre.length).L).map (Value.int .i64)) ∧
  W.ownsRow n₁ 3 1 x.2 N ((vecOf N (rndTo g q N s (pre.length + 1)).L).map (Value.int .i64))

set_option maxRecDepth 100000 in
set_option maxHeartbeats 8000000 in
theorem q_rounds1 (n : Nat) (hn : 1 ≤ n) (g : G) (hk : Gok g) (q : Int) (N : Nat) (hN0 : 0 < N) (hN : N ≤ 12) (s : St) (hL : ∀ u, u < N → -1000000000 ≤ s.L u ∧ s.L u ≤ 1000000000) (w : World) (base b bv go : Nat) (bs : Nat → Nat)
    (hbd : Bd w base b bv go bs q N (fun v => valence g v) (rowsF g)) (Bx Dx : Nat) (dv : Value) (hBx : Boxed w Bx 113 (.pointer (some ⟨b, 0, none⟩))) (hDx : Boxed w Dx 26 dv)
    (hd : IntsR w dv (vecOf N s.L)) (p : Nat → Prop) (hp : ∀ k, p k → k < w.heap.size ∧ k ≠ b ∧ k ≠ bv ∧ k ≠ go ∧ (∀ i, i < N → k ≠ bs i) ∧ k ≠ Bx ∧ k ≠ Dx) (hoff : offP (fun k => p k ∨ k = Dx) dv) (n₀ M : Nat) (hM : M ≤ 2000000) :
    SeqX Fence.wide n Tryz.prog 86 #[.pointer (some ⟨Bx, 0, none⟩), .pointer (some ⟨Dx, 0, none⟩)] (fun x : Value × Value => #[x.1, x.2]) (EX g q N s w.heap.size) (KeptC n₀ p)
      (fun xs => rdyN g q N (rndTo g q N s xs.length).L = []) M Dx w := by
  intro l J Jx W hW hJ hJD hJM hY h0
  have HJ := hid hJ
  have HJD := hid hJD
  have HJM := hid hJM
  have HY := hid hY
  have HK := hid hk
  have HL := hid (fun k (hk2 : k ≤ 2000000) u hu => (show -1000000000000 ≤ (rndTo g q N s k).L u ∧ (rndTo g q N s k).L u ≤ 1000000000000 by have := rndTo_bd hk hN q s 1000000000 hL k u hu; omega))
  have HP := hid hp
  have hRd : ∀ lv (w1 : World), w1.ownsRow w.heap.size 3 1 lv (rdyN g q N s.L).length ((rdyN g q N s.L).map (Value.int .i64)) → Below W.heap.size W w1 → Rd g q N s base b bv go bs w.heap.size Bx Dx p J [] lv w1 := fun lv w1 hown hB =>
    ⟨hJ _ _ _ none h0 (grown_below hB) (fun r e => by cases e), (hbd.mono hW).mono hB, (hB.block Bx (Nat.lt_of_lt_of_le hBx.lt hW.size)).trans ((hW.block Bx hBx.lt).trans hBx), ⟨dv, (hB.block Dx (Nat.lt_of_lt_of_le hDx.lt hW.size)).trans ((hW.block Dx hDx.lt).trans hDx), (hd.below hW).below hB, hoff⟩, hown, Nat.le_trans hW.size hB.size⟩
  have HRd := hid hRd
  have c1 : W.cell? ⟨Bx, 0, none⟩ = some (.pointer (some ⟨b, 0, none⟩)) := (hW.cell (p := ⟨Bx, 0, none⟩) hBx.lt).trans hBx.cell
  have c2 : W.cell? ⟨Dx, 0, none⟩ = some dv := (hW.cell (p := ⟨Dx, 0, none⟩) hDx.lt).trans hDx.cell
  have HQ := hid (q_ready g q N s.L dv W base b bv go bs hN (hbd.mono hW) (hd.below hW))
  have HWs := hid hW.size
  clear hJ hJD hJM hY hk hp hL hRd hbd hBx hDx hd hoff hW h0
  refine callsIn_of_wp Tryz.func86 rfl trivial ?_ rfl
  simp only [Tryz.ntmps86, List.size_toArray, List.length_cons, List.length_nil, Nat.reduceAdd, Nat.reduceSub, Array.replicate_succ, Array.replicate_zero, List.push_toArray, List.append_toArray, List.nil_append, List.cons_append]
  gi_wp2_with fail
  refine ⟨trivial, ?_⟩
  refine (callsIn_wide.2 HQ.out).mono ?_
  rintro e w1 ⟨lv, rfl, hown, hB1⟩
  have HR := hid (HRd.out lv w1 (owns_base hown HWs.out) hB1)
  clear hown hB1 c1 c2 HQ HRd
  dsimp only
  gi_wp2_with fail
  obtain ⟨P0, hP0⟩ : ∃ P0 : Program, P0 = Tryz.prog := ⟨_, rfl⟩
  refine wpIn_loop_ghost (fun m a wr => ∃ pre lv u5 u6 u7 u8 u9 u10 u11 u12 u13 u14 u15 u16 u17 u18 u19 u20 u21 u22, a = { tmps := #[Value.func (Fn.yield l) #[] #[], .pointer (some ⟨Bx, 0, none⟩), .pointer (some ⟨Dx, 0, none⟩), undef, lv, u5, u6, u7, u8, u9, u10, u11, u12, u13, u14, u15, u16, u17, u18, u19, u20, u21, u22], defers := [] } ∧ m + pre.length = M ∧ Hid (Rd g q N s base b bv go bs w.heap.size Bx Dx p J pre lv wr)) ?_ M _ _ ⟨[], lv, _, _, _, _, _, _, _, _, _, _, _, _, _, _, _, _, _, _, rfl, by simp, HR⟩
  clear HR hP0 P0
  rintro m a wr ⟨pre, lv, u5, u6, u7, u8, u9, u10, u11, u12, u13, u14, u15, u16, u17, u18, u19, u20, u21, u22, rfl, hm, HR⟩
  obtain ⟨W1, rfl⟩ : ∃ W : World, W = wr := ⟨_, rfl⟩
  obtain ⟨la, lc, rfl⟩ := owns_slice HR.out.row
  have HLE := hid (rdy_len g q N (rndTo g q N s pre.length).L)
  by_cases hz : (rdyN g q N (rndTo g q N s pre.length).L).length = 0
  · rw [hz]
    have HE : Hid (rdyN g q N (rndTo g q N s pre.length).L = []) := List.eq_nil_of_length_eq_zero hz
    clear hz HLE
    gi_wp2_with fail
    go_end0
    exact ⟨⟨_, rfl⟩, .inl ⟨pre, HE.out, HR.out.j⟩⟩
  · have HEN : Hid (rdyN g q N (rndTo g q N s pre.length).L ≠ []) := fun e => hz (by rw [e]; rfl)
    have HRW := hid HR.out.row
    obtain ⟨dv, hdx, hdi, hdo⟩ := HR.out.dx
    have hlr : ∀ v ∈ rdyN g q N (rndTo g q N s pre.length).L, ∃ u : Nat, v = u ∧ u < N := fun v hv => by obtain ⟨u, h1, h2, _⟩ := rdy_mem g q N _ v hv; exact ⟨u, h1, h2⟩
    have hML := HJM.out pre W1 HR.out.j
    have HF := hid (q_fire g HK.out q N (rndTo g q N s pre.length).L dv _ _ W1 base b bv go bs hN0 hN HR.out.bd hdi (owns_ints HRW.out (by have := HLE.out; omega)) hlr (by have := HLE.out; omega) (HL.out _ (by omega)))
    have c1 := HR.out.bx.cell
    have c2 := hdx.cell
    have f2 := hdx.frozen
    have l2 := hdx.lt
    have hlen : (0 : Int) < ((rdyN g q N (rndTo g q N s pre.length).L).length : Int) := by omega
    have hlen2 : ((rdyN g q N (rndTo g q N s pre.length).L).length : Int) ≤ 12 := by have := HLE.out; omega
    have HDX := hid hdx
    have hst : fireAll g (rdyN g q N (rndTo g q N s pre.length).L) (rndTo g q N s pre.length).L = (rndTo g q N s (pre.length + 1)).L := (rnd_L g q N (rndTo g q N s pre.length)).symm
    rw [hst] at HF
    clear hlr hdi hdx hst hz HLE
    generalize hln0 : (rdyN g q N (rndTo g q N s pre.length).L).length = ln at *
    have HLN : Hid ((rdyN g q N (rndTo g q N s pre.length).L).length = ln) := hln0
    clear hln0
    gi_wp2_with fail
    refine ⟨trivial, ?_⟩
    refine (callsIn_wide.2 HF.out).mono ?_
    rintro e w2 ⟨nb, nc, rfl, hown, hB2⟩
    clear HF c1 c2 hlen
    have hsz := HR.out.sz
    have hDlt := HDX.out.lt
    have hnb := (owns_lt hown).1
    have HO : Hid ((w2.setCell ⟨Dx, 0, none⟩ (.slice (some ⟨nb, 0, none⟩) N nc)).ownsRow w.heap.size 3 1 (.slice (some ⟨nb, 0, none⟩) N nc) N ((vecOf N (rndTo g q N s (pre.length + 1)).L).map (Value.int .i64))) := owns_base (owns_other hown (by omega) 0 _) hsz
    have HKC := hid (KeptC.set w2 Dx (.slice (some ⟨nb, 0, none⟩) N nc))
    have HJ3 : Hid (J pre (w2.setCell ⟨Dx, 0, none⟩ (.slice (some ⟨nb, 0, none⟩) N nc))) := HJD.out _ _ _ (HJ.out _ _ _ none HR.out.j (grown_below hB2) (fun r e => by cases e))
    have hr2 := owns_below HRW.out hB2
    have HR3 : Hid ((w2.setCell ⟨Dx, 0, none⟩ (.slice (some ⟨nb, 0, none⟩) N nc)).ownsRow w.heap.size 3 1 (.slice la ln lc) ln ((rdyN g q N (rndTo g q N s pre.length).L).map (Value.int .i64))) := HKC.out.row hr2 (fun k e h => by
      subst h; exact (boxed_below HDX.out hB2).not_row (by decide) hr2 e.symm)
    have HD3 : Hid (Boxed (w2.setCell ⟨Dx, 0, none⟩ (.slice (some ⟨nb, 0, none⟩) N nc)) Dx 26 (.slice (some ⟨nb, 0, none⟩) N nc)) := (boxed_below HDX.out hB2).set _
    have HBx2 := boxed_below HR.out.bx hB2
    have HBx3 : Hid (Boxed (w2.setCell ⟨Dx, 0, none⟩ (.slice (some ⟨nb, 0, none⟩) N nc)) Bx 113 (.pointer (some ⟨b, 0, none⟩))) := HBx2.other (boxed_ne HBx2 (boxed_below HDX.out hB2) (by decide)) _
    have hbd2 := HR.out.bd.mono hB2
    have hdx2 := boxed_below HDX.out hB2
    have HBD3 : Hid (Bd (w2.setCell ⟨Dx, 0, none⟩ (.slice (some ⟨nb, 0, none⟩) N nc)) base b bv go bs q N (fun v => valence g v) (rowsF g)) := hbd2.keptC HKC.out (fun e => blk_ne hbd2.blk (show Blk w2 Dx #[_] 26 from hdx2) (by decide) e) (fun e => nr_ne hdx2 (by decide) hbd2.vals e) (fun e => nr_ne hdx2 (by decide) hbd2.rows.outer e) (fun i hi e => nr_ne hdx2 (by decide) (hbd2.rows.row i hi) e)
    have HNB : Hid (w.heap.size ≤ nb ∧ nb ≠ Dx) := ⟨by omega, by omega⟩
    have hsz3 : w.heap.size ≤ (w2.setCell ⟨Dx, 0, none⟩ (.slice (some ⟨nb, 0, none⟩) N nc)).heap.size := by have := hB2.size; simp; omega
    have c2 := HD3.out.cell
    have cw2 : w2.cell? ⟨Dx, 0, none⟩ = some dv := hdx2.cell
    have fw2 := hdx2.frozen
    obtain ⟨fn, tmps, assign, body, hy, hR⟩ := HY.out pre (.slice la ln lc, .slice (some ⟨nb, 0, none⟩) N nc) _ HJ3.out ⟨HEN.out, HLN.out ▸ HR3.out, HO.out⟩
    dsimp only at hy
    have HRR := hid hR
    have hl2' : Dx < w2.heap.size := hdx2.lt
    clear hR hB2 hown hnb hr2 HBx2 hbd2 hdx2 hDlt f2 l2 hsz HR HDX
    generalize hW3 : w2.setCell ⟨Dx, 0, none⟩ (.slice (some ⟨nb, 0, none⟩) N nc) = W3 at *
    dsimp only
    gi_wp2_with fail
    refine HRR.out.mono ?_
    clear HRR hy
    rintro e W4 (⟨rfl, hJ4, hk4⟩ | ⟨rfl, hJx4⟩)
    · have hpb : ¬ p b := fun h => (HP.out _ h).2.1 rfl
      have hpv : ¬ p bv := fun h => (HP.out _ h).2.2.1 rfl
      have hpg : ¬ p go := fun h => (HP.out _ h).2.2.2.1 rfl
      have hpr : ∀ i, i < N → ¬ p (bs i) := fun i hi h => (HP.out _ h).2.2.2.2.1 i hi rfl
      have hpB : ¬ p Bx := fun h => (HP.out _ h).2.2.2.2.2.1 rfl
      have hpD : ¬ p Dx := fun h => (HP.out _ h).2.2.2.2.2.2 rfl
      have hpn : ∀ k, w.heap.size ≤ k → ¬ p k := fun k hk h => by have := (HP.out _ h).1; omega
      have HBD4 := hid (HBD3.out.keptC hk4 hpb hpv hpg hpr)
      have HBx4 := hid (boxed_keptC HBx3.out hk4 hpB)
      have HD4 := hid (boxed_keptC HD3.out hk4 hpD)
      have HO4 := hid (hk4.row HO.out (fun k e => Option.some.inj e ▸ hpn nb HNB.out.1))
      have hsz4 : w.heap.size ≤ W4.heap.size := Nat.le_trans hsz3 hk4.low.size
      have HLEN : Hid ((pre ++ [(Value.slice la ln lc, Value.slice (some ⟨nb, 0, none⟩) N nc)]).length = pre.length + 1) := by show _ = _; simp
      have HI4 : Hid (IntsR W4 (.slice (some ⟨nb, 0, none⟩) N nc) (vecOf N (rndTo g q N s (pre.length + 1)).L)) := owns_intsN HO4.out (vecOf_len _ _) (by omega)
      have HQ := hid (q_ready g q N _ _ W4 base b bv go bs hN HBD4.out HI4.out)
      have HOFF : Hid (offP (fun k => p k ∨ k = Dx) (.slice (some ⟨nb, 0, none⟩) N nc)) := by
        rintro a' n' c' e
        injection e with e _ _
        injection e with e
        subst e
        rintro (h | h)
        · exact hpn nb HNB.out.1 h
        · exact HNB.out.2 h
      have HMM := hid (HJM.out _ _ hJ4)
      have HJ4 := hid hJ4
      have c1 := HBx4.out.cell
      have c3 := HD4.out.cell
      clear hJ4 hk4 hpb hpv hpg hpr hpB hpD hpn HBD3 HBx3 HD3 HO HR3 c2 hsz3 HJ3 HRW
      dsimp only
      gi_wp2_with fail
      refine ⟨trivial, ?_⟩
      refine (callsIn_wide.2 HQ.out).mono ?_
      rintro e w5 ⟨lv5, rfl, hown5, hB5⟩
      have HR5 : Hid (Rd g q N s base b bv go bs w.heap.size Bx Dx p J (pre ++ [(Value.slice la ln lc, Value.slice (some ⟨nb, 0, none⟩) N nc)]) lv5 w5) :=
        ⟨HJ.out _ _ _ none HJ4.out (grown_below hB5) (fun r e => by cases e), HBD4.out.mono hB5, boxed_below HBx4.out hB5, ⟨_, boxed_below HD4.out hB5, by rw [HLEN.out]; exact HI4.out.below hB5, HOFF.out⟩, by rw [HLEN.out]; exact owns_base hown5 hsz4, Nat.le_trans hsz4 hB5.size⟩
      clear hown5 hB5 HQ c1 c3 HBD4 HBx4 HD4 HO4 HI4
      dsimp only
      gi_wp2_with fail
      exact ⟨M - (pre.length + 1), by have := HMM.out; rw [HLEN.out] at this; omega, pre ++ [(Value.slice la ln lc, Value.slice (some ⟨nb, 0, none⟩) N nc)], lv5, _, _, _, _, _, _, _, _, _, _, _, _, _, _, _, _, _, _, rfl, by have := HMM.out; rw [HLEN.out] at this ⊢; omega, HR5⟩
    · dsimp only
      gi_wp2_with fail
      refine bodyPost_ret (results_none rfl _ _ _) rfl ?_
      exact ⟨⟨_, rfl⟩, .inr ⟨_, hJx4⟩⟩

set_option maxHeartbeats 1000000 in
theorem q_rounds (b : Nat) (da : Option Addr) (dn dc : Nat) (w : World) :
    Calls Tryz.prog 64 #[.pointer (some ⟨b, 0, none⟩), .slice da dn dc] w fun e w' => e = .returned (.func (.func 86) #[] #[.pointer (some ⟨w.heap.size, 0, none⟩), .pointer (some ⟨w.heap.size + 1, 0, none⟩)]) ∧
      w' = (w.alloc (.cells #[.pointer (some ⟨b, 0, none⟩)] 113)).alloc (.cells #[.slice da dn dc] 26) := by
  go_enter Tryz.func64, Tryz.ntmps64
  go_wp2
  go_ret
  exact ⟨by simp, rfl⟩

end Go.Proofs.YtbjoblkigbphhaaGreat

namespace Go.Proofs.YtbjoblkigbphhaaGreat
set_option linter.unusedVariables false

section
variable {P : Program} {ops : Array Oper} {md : Region.Mode} {Q : Exit → Act → World → Prop}

theorem count_set_lt {l : List Bool} {i : Nat} (h : l[i]? = some false) : (l.set i true).count false + 1 = l.count false := by
  induction l generalizing i with
  | nil => simp at h
  | cons x l ih =>
    cases i with
    | zero => simp at h; subst h; simp
    | succ i =>
      simp only [List.getElem?_cons_succ] at h
      have := ih h
      simp only [List.set_cons_succ, List.count_cons]
      omega
theorem getD_true_false {L : Array Bool} {i : Nat} (h : L.getD i true = false) : L.toList[i]? = some false := by
  rw [Array.getElem?_toList]
  rw [Array.getD_eq_getD_getElem?] at h
  cases hx : L[i]? with
  | none => rw [hx] at h; cases h
  | some b => rw [hx] at h; simp at h; rw [h]

theorem wpAny_inv (Inv : Array Bool → Act → World → Prop)
    (hstep : ∀ L a w i, Inv L a w → i ∈ Region.ready md ops L → wpOp P ops Q i (Inv (L.setIfInBounds i true)) a w)
    (hend : ∀ L a w, Inv L a w → Region.ready md ops L = [] → Q .normal a w) :
    ∀ (fuel : Nat) (L : Array Bool) (a : Act) (w : World), L.toList.count false ≤ fuel → Inv L a w → wpAny P md ops Q fuel L a w := by
  intro fuel
  induction fuel with
  | zero =>
    intro L a w hc hI
    have hr : Region.ready md ops L = [] := by
      apply List.eq_nil_iff_forall_not_mem.2
      intro j hj
      have h1 := getD_true_false (mem_ready.1 hj).1
      have h2 := count_set_lt h1
      omega
    exact ⟨hr, hend L a w hI hr⟩
  | succ fuel ih =>
    intro L a w hc hI
    refine ⟨hend L a w hI, fun i hi => ?_⟩
    refine wpOp_mono (fun a' w' h' => ih _ a' w' ?_ h') (hstep L a w i hI hi)
    have h2 := count_set_lt (getD_true_false (mem_ready.1 hi).1)
    rw [Array.toList_setIfInBounds]
    omega

/-- Whatever waits for something waits for an operation ahead of it in the text. -/
def backB (ops : Array Oper) : Bool := (List.range ops.size).all fun j => ((ops[j]?).map fun o => o.after.all fun e => decide (e.on < j)).getD true
theorem backB_spec (h : backB ops = true) (j : Nat) (o : Oper) (ho : ops[j]? = some o) : ∀ e ∈ o.after, e.on < j := by
  unfold backB at h
  have hj : j < ops.size := (Array.getElem?_eq_some_iff.1 ho).1
  have := List.all_eq_true.1 h j (List.mem_range.2 hj)
  rw [ho] at this
  simp only [Option.map_some, Option.getD_some, Array.all_eq_true_iff_forall_mem, decide_eq_true_eq] at this
  exact this
theorem ready_nil_all (hb : backB ops = true) {L : Array Bool} (hs : L.size = ops.size) (hr : Region.ready md ops L = []) : ∀ j, j < ops.size → L.getD j false = true := by
  intro j
  induction j using Nat.strongRecOn with
  | _ j ih =>
    intro hj
    cases hx : L.getD j false with
    | true => rfl
    | false =>
      exfalso
      have : j ∈ Region.ready md ops L := by
        rw [mem_ready]
        refine ⟨?_, ops[j], Array.getElem?_eq_getElem hj, fun e he _ => ih _ (backB_spec hb j _ (Array.getElem?_eq_getElem hj) e he) (Nat.lt_trans (backB_spec hb j _ (Array.getElem?_eq_getElem hj) e he) hj)⟩
        rw [Array.getD_eq_getD_getElem?, Array.getElem?_eq_getElem (by omega)] at hx ⊢
        simpa using hx
      rw [hr] at this
      cases this
theorem getD_listed {L : Array Bool} {i j : Nat} (hi : i < L.size) : (L.setIfInBounds i true).getD j false = (decide (i = j) || L.getD j false) := by
  by_cases h : i = j
  · subst h; simp [hi]
  · rw [getD_set_ne false h]; simp [h]
/-- One operation, walked as a list of one. -/
theorem wpOp_one {i : Nat} {o : Oper} {K : Act → World → Prop} {a : Act} {w : World} (ho : ops[i]? = some o) (h : wpList P ops (Exit.then K Q) [o] a w) (hg : o.guard = none) : wpOp P ops Q i K a w := by
  unfold wpOp
  simp only [ho]
  have hw : Region.wanted o (yielded ops a.tmps) = true := by unfold Region.wanted; rw [hg]
  rw [if_pos hw]
  unfold wpList at h
  rw [if_pos hw] at h
  rcases h with h | h
  · refine .inl ?_
    unfold Oper.wp at *
    generalize (execOp a.eval o).run P w = r at *
    cases r with
    | ok n w' =>
      cases n <;> simp only [Oper.upon] at h ⊢ <;>
        first
          | exact h
          | exact Calls.mono h (fun e w'' he => by cases e <;> exact he)
          | exact Rows.mono h (fun _ _ he => he)
    | halt x w' => cases x <;> simp only [Oper.upon] at h ⊢ <;> exact h
  · exact .inr ⟨h.1, h.2⟩
end

end Go.Proofs.YtbjoblkigbphhaaGreat
