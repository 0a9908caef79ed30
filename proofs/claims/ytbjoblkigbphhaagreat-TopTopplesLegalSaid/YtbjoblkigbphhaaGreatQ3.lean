/-
  Contracts of the parallel game's board: ready, fire, rounds. A range over a function whose items lie in memory: the law of the loop, for the parallel game.
-/
import Derived.Test.YtbjoblkigbphhaaGreatQ1
import Derived.Test.YtbjoblkigbphhaaGreatAb4
import Derived.LoopNIn
namespace Go.Proofs.YtbjoblkigbphhaaGreat
set_option linter.unusedVariables false
open Go.RowKit

set_option maxRecDepth 100000 in
set_option maxHeartbeats 4000000 in
theorem q_ready (g : G) (q : Int) (N : Nat) (L : Nat → Int) (dv : Value) (w : World) (base b bv go : Nat) (bs : Nat → Nat) (hN : N ≤ 12) (h : Bd w base b bv go bs q N (fun v => valence g v) (rowsF g)) (hd : IntsR w dv (vecOf N L)) :
    Calls Tryz.prog 87 #[.pointer (some ⟨b, 0, none⟩), dv] w fun e w' => ∃ v, e = .returned v ∧
      w'.ownsRow w.heap.size 3 1 v (rdyN g q N L).length ((rdyN g q N L).map (Value.int .i64)) ∧ Below w.heap.size w w' := by
  obtain ⟨a, cap, rfl, _, _, _, hc⟩ := hd
  obtain ⟨c0, _, c2⟩ := h.cells
  have l0 := h.blk.lt
  have HV := hid (fun k hk => h.valAt k hk)
  have l1 := (owns_lt h.vals).2
  have HC := hid hc
  have HL := hid (vecOf_len N L)
  clear h hc
  rw [HL.out]
  unfold rdyN
  go_enter Tryz.func87, Tryz.ntmps87
  go_wp2
  go_loopw [5, 13] (fun t i wr => ∃ k : Nat, k ≤ N ∧ i = .int .i64 k ∧
      wr.ownsRow w.heap.size 3 1 t (waitTo (isRdy g q L) k).length ((waitTo (isRdy g q L) k).map (Value.int .i64)) ∧ Below w.heap.size w wr)
    (fun _ i _ => N - (intOf i).toNat)
  case atStart => exact ⟨0, Nat.zero_le _, rfl, World.ownsRow_nil _ _ _ _, Below.refl _ _⟩
  case round =>
    obtain ⟨k, hkn, rfl, hown, hB⟩ := hrel
    by_cases hlt : k < N
    · have HS := hid (waitTo_succ (isRdy g q L) k)
      have HU : Hid (isRdy g q L k = (decide ((k : Int) ≠ q) && (decide (0 < valence g k) && decide (valence g k ≤ L k)))) := rfl
      have hln := waitTo_len (isRdy g q L) k
      obtain ⟨b', off, rfl, hb', hx⟩ := HC.out.int (by rw [HL.out]; omega)
      have x1 := hx k (by rw [HL.out]; exact hlt)
      rw [vecOf_get _ _ _ hlt] at x1
      have x2 := HV.out k hlt
      generalize isRdy g q L = U at *
      obtain ⟨r1, r2⟩ := bcell hB
      have hk1 : (k : Int) < (N : Int) := by omega
      have hk0 : (0 : Int) ≤ (k : Int) := by omega
      (try dsimp only at x2)
      generalize valence g k = x at *
      generalize L k = y at *
      clear hx
      by_cases hq : (k : Int) = q
      · have hq2 : ((k : Int) != q) = false := by simpa using hq
        have hu : Hid (U k = false) := by show _ = _; rw [HU.out]; simp [hq]
        clear hq
        go_wp2
        go_roundw
        case rel => exact ⟨k + 1, by omega, by go_num, by rw [HS.out, hu.out]; exact hown, hB⟩
        case measure => simp [intOf]; omega
      · have hq2 : ((k : Int) != q) = true := by simpa using hq
        clear hq
        by_cases hx0 : 0 < x
        · by_cases hxy : x ≤ y
          · have hu : Hid (U k = true) := by show _ = _; rw [HU.out]; simp [hxy, hx0]; simpa using hq2
            have hs := hB.size
            go_wp2_with (at_builtin; refine wpList_app1 wr rfl _ _ 25 rfl 3 Tryz.underInts Tryz.infoInt w.heap.size _ (waitTo U k) hown k wr.heap.size rfl rfl rfl (by omega) (by omega) ?_; intro v' w2 hown2 hgr2 hbk)
            go_roundw
            case rel => exact ⟨k + 1, by omega, by go_num, by rw [HS.out, hu.out]; exact hown2, below_grown hB hs hgr2 hbk (Nat.le_refl _)⟩
            case measure => simp [intOf]; omega
          · have hu : Hid (U k = false) := by show _ = _; rw [HU.out]; simp; omega
            go_wp2
            go_roundw
            case rel => exact ⟨k + 1, by omega, by go_num, by rw [HS.out, hu.out]; exact hown, hB⟩
            case measure => simp [intOf]; omega
        · have hu : Hid (U k = false) := by show _ = _; rw [HU.out]; simp; omega
          go_wp2
          go_roundw
          case rel => exact ⟨k + 1, by omega, by go_num, by rw [HS.out, hu.out]; exact hown, hB⟩
          case measure => simp [intOf]; omega
    · obtain rfl : k = N := by omega
      obtain ⟨r1, r2⟩ := bcell hB
      go_wp2
      go_ret
      exact ⟨_, rfl, hown, hB⟩

/-- The divisor behind a round is handed back. -/
def RetRow (T0 : TypeId) (w : World) (N : Nat) (L : Nat → Int) (e : Ending) (w' : World) : Prop :=
  ∃ b c, e = .returned (.slice (some ⟨b, 0, none⟩) N c) ∧ w'.ownsRow w.heap.size T0 1 (.slice (some ⟨b, 0, none⟩) N c) N ((vecOf N L).map (Value.int .i64)) ∧ Below w.heap.size w w'

set_option maxRecDepth 100000 in
set_option maxHeartbeats 8000000 in
theorem q_fire (g : G) (hk : Gok g) (q : Int) (N : Nat) (L : Nat → Int) (dv lv : Value) (l : List Int) (w : World) (base b bv go : Nat) (bs : Nat → Nat) (hN0 : 0 < N) (hN : N ≤ 12) (h : Bd w base b bv go bs q N (fun v => valence g v) (rowsF g)) (hd : IntsR w dv (vecOf N L))
    (hl : IntsR w lv l) (hlr : ∀ v ∈ l, ∃ u : Nat, v = u ∧ u < N) (hll : l.length ≤ 12) (hL : ∀ u, u < N → -1000000000000 ≤ L u ∧ L u ≤ 1000000000000) :
    Calls Tryz.prog 88 #[.pointer (some ⟨b, 0, none⟩), dv, lv] w (RetRow 3 w N (fireAll g l L)) := by
  have hcl := c_Clone (vecOf N L) dv w hd (by rw [vecOf_len]; exact hN0)
  rw [vecOf_len] at hcl
  have HCL := hid hcl
  obtain ⟨al, capl, rfl, _, _, _, hlc⟩ := hl
  have HLC := hid hlc
  have HBD := hid h
  have HLR := hid hlr
  have HBL : Hid (∀ j u, u < N → -1000000008400 ≤ fireAll g (l.take j) L u ∧ fireAll g (l.take j) L u ≤ 1000000008400) := fun j u hu => by
    have := fireAll_bd hk (l.take j) 1000000000000 L hL u hu
    have h2 : (l.take j).length ≤ 12 := by rw [List.length_take]; omega
    omega
  have HK := hid hk
  have HN := hid hN
  clear hcl hd hlc h hlr hL hk hN
  go_enter Tryz.func88, Tryz.ntmps88
  go_wp2_with fail
  refine HCL.out.mono ?_
  rintro e w1 ⟨bo, co, rfl, hown, hB1⟩
  have HO : Hid (w1.ownsRow w.heap.size 3 1 (.slice (some ⟨bo, 0, none⟩) N co) N ((vecOf N (fireAll g (l.take 0) L)).map (Value.int .i64))) := hown
  have HB1 := hid hB1
  have HBO : Hid (w.heap.size ≤ bo) := (owns_lt hown).1
  clear hown hB1 HCL
  go_simp
  go_wp2_with fail
  go_loopw [16] (fun i wr => ∃ j : Nat, j ≤ l.length ∧ i = .int .i64 j ∧ Hid (wr.ownsRow w.heap.size 3 1 (.slice (some ⟨bo, 0, none⟩) N co) N ((vecOf N (fireAll g (l.take j) L)).map (Value.int .i64))) ∧ Hid (Below w.heap.size w wr)) (fun i _ => l.length - (intOf i).toNat)
  case atStart => exact ⟨0, Nat.zero_le _, rfl, HO, HB1⟩
  case round =>
    clear HO HB1
    obtain ⟨j, hj, rfl, HO, HB⟩ := hrel
    obtain ⟨W1, rfl⟩ : ∃ W : World, W = wr := ⟨_, rfl⟩
    by_cases hlt : j < l.length
    · obtain ⟨ba, off, rfl, hba, hx⟩ := (HLC.out.below HB.out).int (by omega)
      have x1 := hx j hlt
      obtain ⟨v, hve, hvN⟩ := HLR.out (l[j]?.getD 0) (by rw [List.getElem?_eq_getElem hlt]; exact List.getElem_mem hlt)
      have HST : Hid (fireAll g (l.take (j + 1)) L = fireL g v (fireAll g (l.take j) L)) := by
        show _ = _; rw [fireAll_step g l L j hlt, hve, Int.toNat_natCast]
      rw [hve] at x1
      have HLB := hid (fun u hu => HBL.out j u hu)
      have HEQ : Hid (fireAll g (l.take j) L = fireAll g (l.take j) L) := rfl
      generalize fireAll g (l.take j) L = M at *
      have hD := HBD.out.mono HB.out
      obtain ⟨c0, c1, _⟩ := hD.cells
      have cv := hD.valAt v hvN
      have cr := hD.rows.at v hvN
      have HRW := hid (fun (w2 : World) (h2 : Below w.heap.size w w2) u hu => (HBD.out.mono h2).rows.cell v u hvN hu)
      have co1 := owns_int HO.out v hvN
      rw [vecOf_get _ _ _ hvN] at co1
      have fb := HO.out.frozenAt v
      have l1 := (owns_lt HO.out).2
      have HVB := hid (val_bd HK.out (v : Int))
      have HRB := hid (fun u => rowsF_bd HK.out v u)
      have hv1 : (v : Int) < (N : Int) := by omega
      have hv0 : (0 : Int) ≤ (v : Int) := by omega
      have hgl : (j : Int) < (l.length : Int) := by omega
      have hj0 : (0 : Int) ≤ (j : Int) := by omega
      have w1 : IntKind.i64.wrap (M v - valence g v) = M v - valence g v := IntWalk.i64_in _ (by have h1 := HLB.out v hvN; have h2 := HVB.out; omega)
      have hst := owns_set (f := Value.int .i64) HO.out v (M v - valence g v)
      rw [fireSt_start] at hst
      have HO2 := hid hst
      have HB2 := hid (HB.out.setCell (p := ⟨bo, v, none⟩) HBO.out (.int .i64 (M v - valence g v)))
      clear hx hD hst HO hve
      let S : World → Prop := fun w' => w'.cell? ⟨b, 0, none⟩ = some (.slice (some ⟨bv, 0, none⟩) N N) ∧ w'.cell? ⟨bv, v, none⟩ = some (.int .i64 (valence g v)) ∧ w'.cell? ⟨bo, v, none⟩ = some (.int .i64 (M v))
      go_wp2_with fail
      (refine wp_region_text 13 [0,1,2,3,4,5,6,7,8,9,10,11,12] S (by kernel_rfl) (by kernel_rfl) (by intro _ _ d _ _ h; cases d <;> exact h) ?hS ?_; rotate_left; simp only [List.map_cons, List.map_nil, List.getD_cons_zero, List.getD_cons_succ, List.drop_succ_cons, List.drop_zero])
      case hS => exact ⟨c0, cv, co1⟩
      (repeat ((refine' wpSeq_take rfl _ (by rfl) ?_ ?_; rotate_left; focus (intro w' hS; (try dsimp only at hS); obtain ⟨s1, s2, s3⟩ := hS; go_simp; (first | done | with_reducible rfl)); (try simp only [Act.put, List.setIfInBounds_toArray, List.set_cons_zero, List.set_cons_succ])); (try simp only [Act.put, List.setIfInBounds_toArray, List.set_cons_zero, List.set_cons_succ])))
      refine wpSeq_nil ?_
      clear S
      (try simp only [Act.put, List.setIfInBounds_toArray, List.set_cons_zero, List.set_cons_succ])
      go_upto_region 6 with fail
      obtain ⟨W2, hW2⟩ : ∃ W : World, W = (W1.setCell ⟨bo, v, none⟩ (.int .i64 (M v - valence g v))).drew := ⟨_, rfl⟩
      rw [← hW2]
      have HO3 : Hid (W2.ownsRow w.heap.size 3 1 (.slice (some ⟨bo, 0, none⟩) N co) N ((vecOf N (fireSt g v 0 M)).map (Value.int .i64))) := by rw [hW2]; exact HO2
      have HB3 : Hid (Below w.heap.size w W2) := by rw [hW2]; exact HB2.out.drew
      clear hW2 HO2 HB2 c0 c1 cv cr co1 fb l1 w1 x1 HB hba
      have hD := HBD.out.mono HB3.out
      obtain ⟨_, c1, _⟩ := hD.cells
      have cr := hD.rows.at v hvN
      generalize bs v = br at cr HRW
      clear hD
      go_wp2_with fail
      go_loopw [41] (fun i wr => ∃ u : Nat, u ≤ N ∧ i = .int .i64 u ∧ Hid (wr.ownsRow w.heap.size 3 1 (.slice (some ⟨bo, 0, none⟩) N co) N ((vecOf N (fireSt g v u M)).map (Value.int .i64))) ∧ Hid (Below w.heap.size w wr)) (fun i _ => N - (intOf i).toNat)
      case atStart => exact ⟨0, Nat.zero_le _, rfl, HO3, HB3⟩
      case round =>
        clear HO3 HB3 c1 cr
        obtain ⟨u, hu, rfl, HO, HB⟩ := hrel
        obtain ⟨W3, rfl⟩ : ∃ W : World, W = wr := ⟨_, rfl⟩
        by_cases hut : u < N
        · have c1 := HRW.out W3 HB.out u hut
          have co1 := owns_int HO.out u hut
          rw [vecOf_get _ _ _ hut] at co1
          have fb := HO.out.frozenAt u
          have l1 := (owns_lt HO.out).2
          have hu1 : (u : Int) < (N : Int) := by omega
          have hu0 : (0 : Int) ≤ (u : Int) := by omega
          have w1 : IntKind.i64.wrap (fireSt g v u M u + rowsF g v u) = fireSt g v u M u + rowsF g v u := IntWalk.i64_in _ (by
            have h1 := HLB.out u hut
            have h2 := HVB.out
            have h3 := HRB.out u
            unfold fireSt
            rw [if_neg (show ¬ u < u by omega)]
            split
            · rename_i e; subst e; omega
            · omega)
          have hst := owns_set (f := Value.int .i64) HO.out u (fireSt g v u M u + rowsF g v u)
          rw [← fireSt_step] at hst
          have HO2 := hid hst
          have HB2 := hid (HB.out.setCell (p := ⟨bo, u, none⟩) HBO.out (.int .i64 (fireSt g v u M u + rowsF g v u)))
          have hw64 : RowKit.wrap64 ((u : Int) + 1) = (u : Int) + 1 := by have := HN.out; unfold RowKit.wrap64; omega
          clear HO HB hst
          generalize fireSt g v u M u = x at *
          generalize rowsF g v u = r at *
          go_wp2_with fail
          simp only [hw64]
          exact ⟨⟨u + 1, by omega, by simp, HO2, HB2⟩, by simp [intOf]; omega⟩
        · obtain rfl : u = N := by omega
          have HO2 : Hid (W3.ownsRow w.heap.size 3 1 (.slice (some ⟨bo, 0, none⟩) u co) u ((vecOf u (fireAll g (l.take (j + 1)) L)).map (Value.int .i64))) := by
            rw [HST.out, ← fireSt_end]; exact HO
          clear HO
          go_wp2_with fail
          exact ⟨⟨j + 1, by omega, by simp, HO2, HB⟩, by simp [intOf]; omega⟩
    · obtain rfl : j = l.length := by omega
      have HO2 : Hid (W1.ownsRow w.heap.size 3 1 (.slice (some ⟨bo, 0, none⟩) N co) N ((vecOf N (fireAll g l L)).map (Value.int .i64))) := by
        have := HO.out
        rw [List.take_length] at this
        exact this
      clear HO
      go_wp2_with fail
      go_ret
      exact ⟨bo, co, rfl, HO2.out, HB.out⟩

end Go.Proofs.YtbjoblkigbphhaaGreat

namespace Go.Proofs.YtbjoblkigbphhaaGreat
set_option linter.unusedVariables false
open Go.RowKit Go.Shelf

/-- Cells that are not named lie as they lay. -/
structure KeptC (n₀ : Nat) (p : Nat → Prop) (W W' : World) : Prop where
  low : Below n₀ W W'
  same : ∀ k o, W.heap[k]? = some o → o.isCells = true → ¬ p k → W'.heap[k]? = some o
theorem KeptC.trans {n₀ : Nat} {p : Nat → Prop} {A B C : World} (h : KeptC n₀ p A B) (h' : KeptC n₀ p B C) : KeptC n₀ p A C :=
  ⟨h.low.trans h'.low, fun k o hk ho hp => h'.same k o (h.same k o hk ho hp) ho hp⟩
theorem KeptC.refl (n₀ : Nat) (p : Nat → Prop) (A : World) : KeptC n₀ p A A := ⟨Below.refl _ _, fun _ _ h _ _ => h⟩
theorem KeptC.book {n₀ : Nat} {p : Nat → Prop} {w : World} (hn : n₀ ≤ w.heap.size) (W : World) (l : Nat) (o o' : Obj) (hl : w.heap.size ≤ l) (ho : W.heap[l]? = some o) (hc : o.isCells = false) (hw : o.isWalk = false) : KeptC n₀ p W (W.putObj l o') :=
  ⟨belowK_b hn W l o o' hl ho hc hw, fun k ob hk hob _ => by
    have hne : k ≠ l := fun e => by subst e; rw [ho] at hk; cases hk; rw [hc] at hob; cases hob
    rw [World.putObj_heap_other hne]; exact hk⟩
theorem KeptC.row {n₀ : Nat} {p : Nat → Prop} {W W' : World} (h : KeptC n₀ p W W') {base : Nat} {t : TypeId} {sz : Nat} {v : Value} {n : Nat} {cs : List Value} (ho : W.ownsRow base t sz v n cs) (hp : ∀ k, v.ownBlock = some k → ¬ p k) : W'.ownsRow base t sz v n cs := by
  obtain ⟨h1, h2⟩ := ho
  refine ⟨h1, ?_⟩
  rcases h2 with h2 | ⟨b, c, cells, hv, hb, hh, r⟩
  · exact .inl h2
  · exact .inr ⟨b, c, cells, hv, hb, h.same b _ hh rfl (hp b (by rw [hv]; rfl)), r⟩
theorem KeptC.blk {n₀ : Nat} {p : Nat → Prop} {W W' : World} (h : KeptC n₀ p W W') {b : Nat} {cs : Array Value} {t : TypeId} (hb : Blk W b cs t) (hp : ¬ p b) : Blk W' b cs t := h.same b _ hb rfl hp
theorem Bd.keptC {w w' : World} {base b bv go : Nat} {bs : Nat → Nat} {q : Int} {N : Nat} {V : Nat → Int} {R : Nat → Nat → Int} {n₀ : Nat} {p : Nat → Prop} (h : Bd w base b bv go bs q N V R) (hk : KeptC n₀ p w w') (hb : ¬ p b) (hv : ¬ p bv) (hg : ¬ p go) (hr : ∀ i, i < N → ¬ p (bs i)) : Bd w' base b bv go bs q N V R :=
  ⟨hk.blk h.blk hb, hk.row h.vals (fun k e => Option.some.inj e ▸ hv), ⟨hk.row h.rows.outer (fun k e => Option.some.inj e ▸ hg), h.rows.inj, fun i hi => hk.row (h.rows.row i hi) (fun k e => Option.some.inj e ▸ hr i hi)⟩, h.hb, h.ne⟩

/-- What an iterator is worth whose items lie in memory (E), that writes the box Dx, and that goes on for at most M rounds. -/
def SeqX {α : Type} (F : Fence) (n : Nat) (P : Program) (gf : Nat) (lb : Array Value) (encs : α → Array Value) (E : List α → α → World → Prop) (Kp : World → World → Prop) (S : List α → Prop) (M Dx : Nat) (w : World) : Prop :=
  ∀ (l : Nat) (J Jx : List α → World → Prop) (W : World), Below w.heap.size w W → AbidesFrom W.heap.size J → (∀ pre X v, J pre X → J pre (X.setCell ⟨Dx, 0, none⟩ v)) → (∀ pre X, J pre X → pre.length ≤ M) →
    (∀ pre x W1, J pre W1 → E pre x W1 → YieldAt F (n - 1) P l (encs x) W1 fun e W' => (e = .returned (.bool true) ∧ J (pre ++ [x]) W' ∧ Kp W1 W') ∨ (e = .returned (.bool false) ∧ Jx (pre ++ [x]) W')) →
    J [] W → CallsIn F n P gf (#[.func (.yield l) #[] #[]] ++ lb) W fun e W' => (∃ v, e = .returned v) ∧ ((∃ xs, S xs ∧ J xs W') ∨ (∃ pre, Jx pre W'))

variable {F : Fence} {n : Nat} {P : Program}

theorem wpIn_rangeX {α : Type} {g : Operand} {ps : Array Tmp} {assign body : Code} {Q : Exit → Act → World → Prop} {a : Act} {w : World}
    (hro : F.round = none) (h1 : 1 ≤ n) {gf : Nat} {lb : Array Value} (hg : a.eval g = .func (.func gf) #[] lb) (hFg : F.fn gf) (eg : ∀ args w, (callFunc gf args).run P w = .ok (.enter gf args) w)
    {encs : α → Array Value} {E : List α → α → World → Prop} {Kp : World → World → Prop} {S : List α → Prop} {M Dx : Nat} (hseq : SeqX F (n - 1) P gf lb encs E Kp S M Dx w) (hDx : Dx < w.heap.size)
    (hKt : ∀ {A B C : World}, Kp A B → Kp B C → Kp A C) (hKb : ∀ (W : World) (l : Nat) (o o' : Obj), w.heap.size ≤ l → W.heap[l]? = some o → o.isCells = false → o.isWalk = false → Kp W (W.putObj l o')) (hps : ∀ x, (encs x).size = ps.size)
    (I : List α → World → Prop) (Ix : Code → List α → World → Prop) (hI : OwnFrom w.heap.size I) (hIx : ∀ c, OwnFrom w.heap.size (Ix c)) (hID : ∀ pre X v, I pre X → I pre (X.setCell ⟨Dx, 0, none⟩ v)) (hIM : ∀ pre X, I pre X → pre.length ≤ M)
    (hE : ∀ pre, OwnFrom w.heap.size (E pre)) (h0 : I [] w) (a₁ : α → Act)
    (hassign : ∀ (l : Nat) (x : α) (W : World) (K : Act → World → Prop), K (a₁ x) W →
      assign.wpIn (F.inRound l) (n - 1 - 1) P (Exit.then K (fun _ _ _ => False)) { tmps := (ps.zip (encs x)).foldl (fun t (p, v) => t.setIfInBounds p v) a.tmps, defers := [] } W)
    (hbody : ∀ (l : Nat) (pre : List α) (x : α) (W : World), I pre W → E pre x W → body.wpIn (F.inRound l) (n - 1 - 1) P (ownPostG w.heap.size Kp I Ix (pre ++ [x]) W) (a₁ x) W)
    (hdone : ∀ (D : Nat) (xs : List α) (W : World), w.heap.size ≤ D → S xs → I xs W → W.heap[D]? = some (.deferred (some [])) → Q .normal { a with defers := { target := .collected D, args := #[] } :: a.defers } W)
    (hstop : ∀ (D : Nat) (c : Code) (pre : List α) (W : World), w.heap.size ≤ D → Ix c pre W → W.heap[D]? = some (.deferred (some [])) → c.wpIn F n P Q { a with defers := { target := .collected D, args := #[] } :: a.defers } W) :
    (Code.rangeFunc g ps assign body).wpIn F n P Q a w := by
  refine wpIn_rangeFunc ?_
  intro fn hfn
  rw [hro]
  obtain ⟨rec, hrec⟩ : ∃ rec : LoopState → Option Code → Loop, rec = fun st pe => { state := st, pending := pe, fn, tmps := a.tmps, params := ps, assign, body, defers := w.heap.size } := ⟨_, rfl⟩
  obtain ⟨W1, hW1⟩ : ∃ W1, (w.alloc (.deferred (some []))).alloc (.loop (rec .ready none)) = W1 := ⟨_, rfl⟩
  have hL1 : W1.heap[w.heap.size + 1]? = some (.loop (rec .ready none)) := by
    rw [← hW1]; have := World.alloc_heap_new (w.alloc (.deferred (some []))) (.loop (rec .ready none)); rwa [World.size_alloc] at this
  have hK1 : W1.heap[w.heap.size]? = some (.deferred (some [])) := by
    rw [← hW1]; exact (Below.heap_alloc _ _ _ (by simp)).trans (World.alloc_heap_new w _)
  have hI1 : I [] W1 := by rw [← hW1]; exact hI.alloc _ (hI.alloc _ h0)
  have hb1 : Below w.heap.size w W1 := by
    rw [← hW1]; exact ((Below.refl _ w).alloc (Nat.le_refl _) _).alloc (by simp) _
  have hs1 : w.heap.size + 2 = W1.heap.size := by rw [← hW1]; simp
  refine ⟨w.heap.size + 1, [{ target := .collected w.heap.size, args := #[] }], W1, { target := .fn (.func gf) lb, args := #[.func (.yield (w.heap.size + 1)) #[] #[]] }, W1, gf,
    #[.func (.yield (w.heap.size + 1)) #[] #[]] ++ lb, W1, ?_, ?_, ?_, ?_, fun _ => h1, ?_⟩
  · rw [← hW1, hrec]; exact run_enterLoop_outer _ _ _ _ _
  · simp only [resolve, hg]
    simp [go_sem]
  · intro f' hf'; simp [Target.leads] at hf'; subst hf'; exact hFg
  · simp [invoke, go_sem, eg]
  · have hnw : ∀ {A B : World} {row : Option Nat}, (∀ r, row = some r → W1.heap.size ≤ r ∧ ∃ o : Obj, A.heap[r]? = some o ∧ o.isWalk = true) → (∀ r, row = some r → w.heap.size ≤ r ∧ ∃ o : Obj, A.heap[r]? = some o ∧ o.isCells = false) :=
      fun hr r e => by obtain ⟨hB, o, ho, hw⟩ := hr r e; exact ⟨by omega, o, ho, Obj.not_cells_of_walk hw⟩
    refine (hseq (w.heap.size + 1)
      (fun pre W => I pre W ∧ W.heap[w.heap.size + 1]? = some (.loop (rec .ready none)) ∧ W.heap[w.heap.size]? = some (.deferred (some [])))
      (fun pre W => ∃ c, Ix c pre W ∧ W.heap[w.heap.size + 1]? = some (.loop (rec .done (some c))) ∧ W.heap[w.heap.size]? = some (.deferred (some [])))
      W1 hb1
      (fun s A B row hs hg' hr => ⟨hI s A B row hs.1 hg' (hnw (B := B) hr), (grownBy_keeps hg' (fun r e => (hr r e).2) hs.2.1 rfl).trans hs.2.1, (grownBy_keeps hg' (fun r e => (hr r e).2) hs.2.2 rfl).trans hs.2.2⟩)
      (fun pre X v hs => ⟨hID pre X v hs.1, (Below.heap_setCell X ⟨Dx, 0, none⟩ v _ (by show w.heap.size + 1 ≠ Dx; omega)).trans hs.2.1, (Below.heap_setCell X ⟨Dx, 0, none⟩ v _ (by show w.heap.size ≠ Dx; omega)).trans hs.2.2⟩)
      (fun pre X hs => hIM pre X hs.1)
      ?_ ⟨hI1, hL1, hK1⟩).mono ?_
    · rintro pre x W ⟨hi, hl, hk⟩ hEx
      have hlt : w.heap.size + 1 < W.heap.size := (Array.getElem?_eq_some_iff.1 hl).1
      have hy := run_yield (P := P) (args := encs x) hl (by rw [hrec]; exact hps x)
      rw [hrec] at hy
      refine ⟨fn, _, assign, body, hy, roundIn_of_wpIn hfn (hassign _ x W _ ?_)⟩
      clear hy
      refine ⟨_, run_beginRound hl (by rw [hrec]), ?_⟩
      have hl2 : (W.putObj (w.heap.size + 1) (.loop { rec .ready none with state := .busy })).heap[w.heap.size + 1]? = some (.loop { rec .ready none with state := .busy }) := World.putObj_heap_same hlt
      have hk2 : (W.putObj (w.heap.size + 1) (.loop { rec .ready none with state := .busy })).heap[w.heap.size]? = some (.deferred (some [])) := (World.putObj_heap_other (by omega)).trans hk
      have hw2 : Kp W (W.putObj (w.heap.size + 1) (.loop { rec .ready none with state := .busy })) := hKb _ _ _ _ (by omega) hl rfl rfl
      refine wpIn_mono (hbody _ pre x _ (hI.putObj _ hi (by omega) hl rfl) ((hE pre).putObj _ hEx (by omega) hl rfl)) ?_
      have fin : ∀ (jump : Option Code) (W3 : World), KeepsFrom w.heap.size (W.putObj (w.heap.size + 1) (.loop { rec .ready none with state := .busy })) W3 →
          (Instr.endRound (w.heap.size + 1) jump).run P W3 = .ok (.bool jump.isNone) (W3.putObj (w.heap.size + 1) (.loop (rec (if jump.isNone then .ready else .done) jump))) ∧
          W3.heap[w.heap.size + 1]? = some (.loop { rec .ready none with state := .busy }) ∧
          (W3.putObj (w.heap.size + 1) (.loop (rec (if jump.isNone then .ready else .done) jump))).heap[w.heap.size + 1]? = some (.loop (rec (if jump.isNone then .ready else .done) jump)) ∧
          (W3.putObj (w.heap.size + 1) (.loop (rec (if jump.isNone then .ready else .done) jump))).heap[w.heap.size]? = some (.deferred (some [])) := fun jump W3 hk3 => by
        have hl3 := hk3.same _ _ (by omega) hl2 rfl
        have := run_endRound (P := P) jump hl3
        rw [hrec] at this ⊢
        exact ⟨this, by rw [hrec] at hl3; exact hl3, World.putObj_heap_same (Array.getElem?_eq_some_iff.1 hl3).1, (World.putObj_heap_other (by omega)).trans (hk3.same _ _ (Nat.le_refl _) hk2 rfl)⟩
      have leave : ∀ (c : Code) (W3 : World), KeepsFrom w.heap.size (W.putObj (w.heap.size + 1) (.loop { rec .ready none with state := .busy })) W3 → Ix c (pre ++ [x]) W3 →
          ∃ v w', (Instr.endRound (w.heap.size + 1) (some c)).run P W3 = .ok v w' ∧ ((Ending.returned v = .returned (.bool true) ∧ (I (pre ++ [x]) w' ∧ w'.heap[w.heap.size + 1]? = some (.loop (rec .ready none)) ∧ w'.heap[w.heap.size]? = some (.deferred (some []))) ∧ Kp W w') ∨
            (Ending.returned v = .returned (.bool false) ∧ ∃ c, Ix c (pre ++ [x]) w' ∧ w'.heap[w.heap.size + 1]? = some (.loop (rec .done (some c))) ∧ w'.heap[w.heap.size]? = some (.deferred (some [])))) := fun c W3 hk3 hi3 => by
        obtain ⟨hr, hl3, hl4, hk4⟩ := fin (some c) W3 hk3
        exact ⟨_, _, hr, .inr ⟨rfl, c, (hIx _).putObj _ hi3 (by omega) hl3 rfl, hl4, hk4⟩⟩
      rintro e a3 W3 hp
      cases e with
      | normal =>
        obtain ⟨hk3, hkp3, hi3⟩ := hp
        obtain ⟨hr, hl3, hl4, hk4⟩ := fin none W3 hk3
        exact ⟨_, _, hr, .inl ⟨rfl, ⟨hI.putObj _ hi3 (by omega) hl3 rfl, hl4, hk4⟩, hKt (hKt hw2 hkp3) (hKb _ _ _ _ (by omega) hl3 rfl rfl)⟩⟩
      | ret => exact leave _ _ hp.1 hp.2
      | exit id => exact leave _ _ hp.1 hp.2
      | goto t => exact leave _ _ hp.1 hp.2
      | panic ch => exact hp.elim
      | outgrown => exact hp.elim
    · rintro e W2 ⟨⟨v, rfl⟩, (⟨xs, hS, hi, hl, hk⟩ | ⟨pre, c, hi, hl, hk⟩)⟩
      · exact ⟨none, _, by have := run_endLoop (P := P) hl (by rw [hrec]; simp); rw [hrec] at this; exact this, hdone _ xs _ (Nat.le_refl _) hS (hI.putObj _ hi (by omega) hl rfl) ((World.putObj_heap_other (by omega)).trans hk)⟩
      · exact ⟨some c, _, by have := run_endLoop (P := P) hl (by rw [hrec]; simp); rw [hrec] at this; exact this, hstop _ c pre _ (Nat.le_refl _) ((hIx c).putObj _ hi (by omega) hl rfl) ((World.putObj_heap_other (by omega)).trans hk)⟩

/-- A loop with a number of rounds that is no one's slot. -/
theorem wpIn_loop_ghost {Q : Exit → Act → World → Prop} {c : Code} (Inv : Nat → Act → World → Prop) (hr : ∀ m a w, Inv m a w → c.wpIn F n P (Exit.then (fun a' w' => ∃ m', m' < m ∧ Inv m' a' w') Q) a w) (m : Nat) (a : Act) (w : World) (h : Inv m a w) : (Code.loop c).wpIn F n P Q a w := by
  refine wpIn_loop_rounds (m + 1) ?_
  have key : ∀ j m a w, m < j → Inv m a w → Code.roundsIn F n P c Q j a w := by
    intro j
    induction j with
    | zero => intro m a w hj; omega
    | succ j ih =>
      intro m a w hj h
      rw [roundsIn_succ]
      refine wpIn_mono (hr m a w h) ?_
      intro e a' w' hp
      cases e with
      | normal => obtain ⟨m', hm, h'⟩ := hp; exact ih m' a' w' (by omega) h'
      | ret => exact hp
      | exit id => exact hp
      | goto t => exact hp
      | panic ch => exact hp
      | outgrown => exact hp
  exact key _ _ _ _ (Nat.lt_succ_self m) h

end Go.Proofs.YtbjoblkigbphhaaGreat
