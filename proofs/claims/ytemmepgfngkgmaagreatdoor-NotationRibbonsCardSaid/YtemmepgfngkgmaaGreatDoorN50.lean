/-
  The reference: ReadRibbon.
-/
import Derived.Test.YtemmepgfngkgmaaGreatDoorN49
import Derived.Test.YtemmepgfngkgmaaGreatDoorR08e
namespace Go.Proofs.YtemmepgfngkgmaaGreatDoor
open Go.RowKit
set_option linter.unusedVariables false
set_option linter.unusedSimpArgs false

/-- Rows of integers of the call's own. -/
structure LwI (w : World) (base : Nat) (v : Value) (vs : List Value) (ls : List (List Int)) : Prop where
  own : w.ownsRow base 50 1 v ls.length vs
  rows : ∀ i, i < ls.length → w.ownsRow base 3 1 (vs[i]?.getD undef) (ls[i]?.getD []).length ((ls[i]?.getD []).map (Value.int .i64))
  dis : ∀ i j k, i < ls.length → j < ls.length → (vs[i]?.getD undef).ownBlock = some k → (vs[j]?.getD undef).ownBlock = some k → i = j
section
variable {w w' : World} {base : Nat} {v v' : Value} {vs : List Value} {ls : List (List Int)}
theorem LwI.len (h : LwI w base v vs ls) : vs.length = ls.length := by have := h.own.1; omega
theorem LwI.dio (h : LwI w base v vs ls) {i k : Nat} (hi : i < ls.length) (hk : (vs[i]?.getD undef).ownBlock = some k) : v.ownBlock ≠ some k := own_differ (h.rows i hi) h.own (by decide) hk
theorem LwI.low (h : LwI w base v vs ls) {r : Option Nat} (hg : w.grownBy w' r) (hr : ∀ k, r = some k → k < base) : LwI w' base v vs ls :=
  ⟨kept_row h.own hg (fun k hk e => by have := (h.own.lt k hk).1; have := hr k e; omega), fun i hi => kept_row (h.rows i hi) hg (fun k hk e => by have := ((h.rows i hi).lt k hk).1; have := hr k e; omega), h.dis⟩
theorem LwI.below (h : LwI w base v vs ls) (hB : Below w.heap.size w w') : LwI w' base v vs ls := h.low (grown_of hB none) (fun k hk => by cases hk)
/-- A number more in a row, and the row put back. -/
theorem LwI.app {g cap i bn cn : Nat} {l' : List Int} (h : LwI w base (.slice (some ⟨g, 0, none⟩) ls.length cap) vs ls) (hi : i < ls.length)
    (ho : w'.ownsRow base 3 1 (.slice (some ⟨bn, 0, none⟩) l'.length cn) l'.length (l'.map (Value.int .i64))) (hg : w.grownBy w' (vs[i]?.getD undef).ownBlock) (hat : (vs[i]?.getD undef).ownBlock = some bn ∨ w.heap.size ≤ bn) :
    LwI (w'.setCell ⟨g, i, none⟩ (.slice (some ⟨bn, 0, none⟩) l'.length cn)) base (.slice (some ⟨g, 0, none⟩) ls.length cap) (vs.set i (.slice (some ⟨bn, 0, none⟩) l'.length cn)) (ls.set i l') := by
  have hlen := h.len
  have ho1 : w'.ownsRow base 50 1 (.slice (some ⟨g, 0, none⟩) ls.length cap) ls.length vs := kept_row h.own hg (fun k hk e => h.dio hi e hk)
  have hgs : w'.grownBy (w'.setCell ⟨g, i, none⟩ (.slice (some ⟨bn, 0, none⟩) l'.length cn)) (some g) := grown_set _ _ _ _
  have hgi : (vs.set i (.slice (some ⟨bn, 0, none⟩) l'.length cn))[i]?.getD undef = .slice (some ⟨bn, 0, none⟩) l'.length cn := by simp [show i < vs.length by omega]
  have hgj : ∀ j, j ≠ i → (vs.set i (.slice (some ⟨bn, 0, none⟩) l'.length cn))[j]?.getD undef = vs[j]?.getD undef := fun j hj => by rw [List.getElem?_set_ne (Ne.symm hj)]
  refine ⟨?_, fun j hj => ?_, fun j k b hj hk h1 h2 => ?_⟩
  · rw [List.length_set]
    exact (ho1.stored i _).1
  · rw [List.length_set] at hj
    by_cases hji : j = i
    · subst hji
      rw [hgi]
      have e2 : (ls.set j l')[j]?.getD [] = l' := by simp [hj]
      rw [e2]
      exact kept_row ho hgs (fun k hk e => own_differ ho ho1 (by decide) hk e)
    · rw [hgj j hji, List.getElem?_set_ne (Ne.symm hji)]
      refine kept_row (kept_row (h.rows j hj) hg (fun k hk e => hji (h.dis j i k hj hi hk e))) hgs (fun k hk e => ?_)
      exact h.dio hj hk e
  · rw [List.length_set] at hj hk
    by_cases hji : j = i
    · by_cases hki : k = i
      · omega
      · exfalso
        subst hji
        rw [hgi] at h1
        rw [hgj k hki] at h2
        obtain rfl : bn = b := by simpa [Value.ownBlock] using h1
        rcases hat with hat | hat
        · exact hki (h.dis k j bn hk hj h2 hat)
        · have := ((h.rows k hk).lt bn h2).2; omega
    · by_cases hki : k = i
      · exfalso
        subst hki
        rw [hgi] at h2
        rw [hgj j hji] at h1
        obtain rfl : bn = b := by simpa [Value.ownBlock] using h2
        rcases hat with hat | hat
        · exact hji (h.dis j k bn hj hk h1 hat)
        · have := ((h.rows j hj).lt bn h1).2; omega
      · rw [hgj j hji] at h1
        rw [hgj k hki] at h2
        exact h.dis j k b hj hk h1 h2
/-- An empty row more. -/
theorem LwI.push (h : LwI w base v vs ls) (ho : w'.ownsRow base 50 1 v' (ls.length + 1) (vs ++ [.slice none 0 0])) (hg : w.grownBy w' v.ownBlock) : LwI w' base v' (vs ++ [.slice none 0 0]) (ls ++ [[]]) := by
  have hlen := h.len
  have hgj : ∀ j, j < ls.length → (vs ++ [Value.slice none 0 0])[j]?.getD undef = vs[j]?.getD undef := fun j hj => by rw [List.getElem?_append_left (by omega)]
  have hgn : ∀ j, ¬ j < ls.length → j < (ls ++ [[]]).length → (vs ++ [Value.slice none 0 0])[j]?.getD undef = .slice none 0 0 := fun j hj hj2 => by
    obtain rfl : j = ls.length := by simp at hj2; omega
    rw [← hlen, List.getElem?_append_right (Nat.le_refl _), Nat.sub_self]; rfl
  refine ⟨by rw [List.length_append]; exact ho, fun j hj => ?_, fun j k b hj hk h1 h2 => ?_⟩
  · by_cases hjl : j < ls.length
    · rw [hgj j hjl, List.getElem?_append_left hjl]
      exact kept_row (h.rows j hjl) hg (fun k hk e => h.dio hjl hk e)
    · rw [hgn j hjl hj]
      have e : (ls ++ [[]])[j]?.getD [] = [] := by
        obtain rfl : j = ls.length := by simp at hj; omega
        rw [List.getElem?_append_right (Nat.le_refl _), Nat.sub_self]; rfl
      rw [e]
      exact World.ownsRow_nil _ _ _ _
  · by_cases hjl : j < ls.length
    · by_cases hkl : k < ls.length
      · rw [hgj j hjl] at h1
        rw [hgj k hkl] at h2
        exact h.dis j k b hjl hkl h1 h2
      · rw [hgn k hkl hk] at h2; cases h2
    · rw [hgn j hjl hj] at h1; cases h1
end

/-- What lies beside the rows. -/
structure QrF (w0 w : World) (b tb O base : Nat) (L : List Tok) (n : Int) (es : List E) (ev v : Value) (s : Rs) : Prop where
  br : Blk w w0.heap.size #[.int .i64 0, .slice none 0 0, .slice none 0 0] 40
  bo : Blk w O #[.int .i64 n, ev, v] 40
  ge : w.ownsRow (b + 1) 82 3 ev es.length (es.flatMap E.cells)
  hge : ∀ k, ev.ownBlock = some k → k < base
  tk : Rk w b tb L s
  hB : Below w0.heap.size w0 w
  hRb : w0.heap.size < b
  hbO : b < base
  htO : tb < base
  hOb : base < O
section
variable {w0 w w' : World} {b tb O base : Nat} {L : List Tok} {n : Int} {es : List E} {ev v v' : Value} {s s' : Rs}
theorem QrF.high (h : QrF w0 w b tb O base L n es ev v s) {r : Option Nat} (hg : w.grownBy w' r) (hr : ∀ k, r = some k → base ≤ k ∧ k ≠ O) : QrF w0 w' b tb O base L n es ev v s := by
  obtain ⟨h1, h2, h3, h4, h5, h6, h7, h9, h10, h11⟩ := h
  exact ⟨h1.grown hg (fun e => by have := hr _ e; omega), h2.grown hg (fun e => (hr _ e).2 rfl), kept_row h3 hg (fun k hk e => by have := h4 k hk; have := hr k e; omega), h4, h5.grownR hg (fun e => by have := hr _ e; omega) (fun e => by have := hr _ e; omega), h6.grown hg h6.size (fun q hq => by have := hr q hq; omega), h7, h9, h10, h11⟩
theorem QrF.step (h : QrF w0 w b tb O base L n es ev v s) (ht : Rk w' b tb L s') (hg : w.grownBy w' (some b)) : QrF w0 w' b tb O base L n es ev v s' := by
  obtain ⟨h1, h2, h3, h4, h5, h6, h7, h9, h10, h11⟩ := h
  exact ⟨h1.grown hg (fun e => by simp at e; omega), h2.grown hg (fun e => by simp at e; omega), kept_row h3 hg (fun k hk e => by have := (h3.lt k hk).1; simp at e; omega), h4, ht, h6.grown hg h6.size (fun q hq => by simp at hq; omega), h7, h9, h10, h11⟩
theorem QrF.below (h : QrF w0 w b tb O base L n es ev v s) (hB : Below w.heap.size w w') : QrF w0 w' b tb O base L n es ev v s := h.step (h.tk.below hB) (grown_of hB _)
theorem QrF.put (h : QrF w0 w b tb O base L n es ev v s) (v' : Value) : QrF w0 (w.setCell ⟨O, 2, none⟩ v') b tb O base L n es ev v' s := by
  obtain ⟨h1, h2, h3, h4, h5, h6, h7, h9, h10, h11⟩ := h
  have hg : w.grownBy (w.setCell ⟨O, 2, none⟩ v') (some O) := grown_set _ _ _ _
  have h2' := h2.set 2 v'
  exact ⟨h1.grown hg (fun e => by simp at e; omega), by simpa using h2', kept_row h3 hg (fun k hk e => by have := h4 k hk; simp at e; omega), h4, h5.setO (by omega) (by omega) 2 v', h6.setCell (by show _ ≤ O; omega) _, h7, h9, h10, h11⟩
theorem LwI.put {cs : Array Value} {vs : List Value} {ls : List (List Int)} (h : LwI w base v vs ls) (hb : Blk w O cs 40) (k : Nat) (u : Value) : LwI (w.setCell ⟨O, k, none⟩ u) base v vs ls :=
  ⟨kept_row h.own (grown_set _ _ _ _) (fun q hq e => owns_blk hb h.own (by decide) q hq (Option.some.inj e).symm), fun i hi => kept_row (h.rows i hi) (grown_set _ _ _ _) (fun q hq e => owns_blk hb (h.rows i hi) (by decide) q hq (Option.some.inj e).symm), h.dis⟩
/-- A row's block is none of those beside the rows. -/
theorem QrF.row {T : TypeId} {u : Value} {size m : Nat} {xs : List Value} (h : QrF w0 w b tb O base L n es ev v s) (ho : w.ownsRow base T size u m xs) (hT : 40 ≠ T) : ∀ k, u.ownBlock = some k → base ≤ k ∧ k ≠ O :=
  fun k hk => ⟨(ho.lt k hk).1, owns_blk h.bo ho hT k hk⟩
end
theorem need_err {s : Rs} (h : s.e ≠ 0) (t : List UInt8) : s.need t = s := by
  unfold Rs.need Rs.is
  rw [not_more h, Bool.false_and, if_neg (by decide)]
  unfold Rs.fail
  rw [if_neg h]

set_option maxRecDepth 100000 in
set_option maxHeartbeats 8000000 in
theorem q_ReadRibbon (text : List UInt8) (w : World) :
    Calls Tryz.prog 23 #[.string (str text)] w (RetRib w (ribP (opened (scanR text)))) := by
  obtain ⟨Z, hZ⟩ : ∃ Z, Z = ribP (opened (scanR text)) := ⟨_, rfl⟩
  rw [← hZ]
  have HZ := hid hZ
  have hop := hid (q_open text)
  have hok := hid (opened_ok text)
  unfold ribP at HZ
  dsimp only at HZ
  generalize opened (scanR text) = s at *
  clear hZ
  have HTS := hid (head_ts hok.out wRibbon)
  go_enter Tryz.func23, Tryz.ntmps23
  go_wp2_with fail
  obtain ⟨W0, hW0⟩ : ∃ W : World, W = w.alloc (.cells #[.int .i64 0, .slice none 0 0, .slice none 0 0] 40) := ⟨_, rfl⟩
  rw [← hW0]
  have HR := hid (show Blk W0 w.heap.size #[.int .i64 0, .slice none 0 0, .slice none 0 0] 40 by rw [hW0]; exact Blk.new _ _ _)
  have HB0 := hid (show Below w.heap.size w W0 by rw [hW0]; exact (Below.refl _ _).alloc (Nat.le_refl _) _)
  clear hW0
  refine (hop.out W0).mono ?_
  rintro e w1 ⟨lv, rfl, ht, hB⟩
  obtain ⟨tb, htb1, htb2, hRk⟩ := Rk.new hok.out ht
  obtain ⟨la, lcap, rfl, _⟩ := ht
  have hst := (Below.refl w1.heap.size w1).alloc (Nat.le_refl _) (.cells #[.slice la s.ts.length lcap, .int .i64 0, .int .i64 s.e, .int .i64 s.pl] 107)
  have HK1 := hid hRk
  have HB1 := hid (up (up HB0.out hB) hst)
  have HR1 := hid ((HR.out.below hB).below hst)
  have HWB : Hid (w.heap.size < w1.heap.size) := by have := HR.out.lt; have := hB.size; show _ < _; omega
  clear hRk hop hB htb1 htb2 HB0 HR
  dsimp only
  go_upto_region 2 with fail
  clear hst
  generalize w1.alloc (.cells #[.slice la s.ts.length lcap, .int .i64 0, .int .i64 s.e, .int .i64 s.pl] 107) = W1 at *
  generalize w1.heap.size = b at *
  go_wp2_with fail
  refine (q_head W1 b tb s.ts s HK1.out wRibbon).mono ?_
  rintro e w2 ⟨rfl, hK2, hg2⟩
  have HK2 := hid hK2
  have HB2 : Hid (Below w.heap.size w w2) := HB1.out.grown hg2 HB1.out.size (fun q hq => by have := HWB.out; simp at hq; omega)
  have HR2 := hid (HR1.out.grown hg2 (fun e => by have := HWB.out; simp at e; omega))
  have hhk : (s.head wRibbon).2.e = 0 → 1 ≤ (s.head wRibbon).1 ∧ (s.head wRibbon).1 ≤ 12 := fun e => head_ok e
  have HHK := hid hhk
  clear hK2 hg2 HK1 HB1 HR1 hhk
  generalize s.ts = L at *
  generalize s.head wRibbon = h at *
  obtain ⟨n, s1⟩ := h
  have HK2 : Hid (Rk w2 b tb L s1) := HK2
  have HTS : Hid (TsOk s1.ts) := HTS
  have HHK : Hid (s1.e = 0 → 1 ≤ n ∧ n ≤ 12) := HHK
  dsimp only at HZ
  obtain ⟨_, _, _, _, _, _, _, _, _, _, _, _, d2, d3, _⟩ := HK2.out.cells
  have hbl := HK2.out.lt
  have hHT : Hid (tb < w2.heap.size) := by obtain ⟨_, _, _, h1, _⟩ := HK2.out.cells; exact h1
  dsimp only
  by_cases he : s1.e = 0
  case neg =>
    have HZ2 : Hid (Z = ((⟨0, []⟩, []), s1.pl, s1.e)) := by
      have h := HZ.out
      rw [exactG_end (.inl he)] at h
      dsimp only at h
      rw [need_err he, if_pos he] at h
      exact h
    clear HZ
    have he1 : (s1.e != 0) = true := by simpa using he
    have HC := hid (And.intro d2 d3)
    clear he
    go_upto_region 4 with fail
    clear d2 d3
    have r0 := HR2.out.cell 0
    have r1 := HR2.out.cell 1
    have r2 := HR2.out.cell 2
    simp only [List.getElem?_toArray, List.getElem?_cons_zero, List.getElem?_cons_succ] at r0 r1 r2
    have hne : b ≠ w.heap.size := by have := HWB.out; omega
    let S : World → Prop := fun W' => W'.cell? ⟨b, 2, none⟩ = some (.int .i64 s1.e) ∧ W'.cell? ⟨b, 3, none⟩ = some (.int .i64 s1.pl)
    (refine wp_region_text 7 [0,1,2,3,4,5,6] S (by kernel_rfl) (by kernel_rfl) (by intro _ _ d _ _ h; cases d <;> exact h) ?hS ?_; rotate_left; simp only [List.map_cons, List.map_nil, List.getD_cons_zero, List.getD_cons_succ, List.drop_succ_cons, List.drop_zero])
    case hS => exact HC.out
    (repeat ((refine' wpSeq_take rfl _ (by rfl) ?_ ?_; rotate_left; focus (intro w' hS; (try dsimp only at hS); obtain ⟨s1, s2⟩ := hS; go_simp; (first | done | with_reducible rfl)); (try simp only [Act.put, List.setIfInBounds_toArray, List.set_cons_zero, List.set_cons_succ])); (try simp only [Act.put, List.setIfInBounds_toArray, List.set_cons_zero, List.set_cons_succ])))
    refine wpSeq_call rfl (by rfl) (fun K hK => ?_)
    have r0' : (w2.drew).cell? ⟨w.heap.size, 0, none⟩ = some (.int .i64 0) := r0
    have r1' : (w2.drew).cell? ⟨w.heap.size, 1, none⟩ = some (.slice none 0 0) := r1
    have r2' : (w2.drew).cell? ⟨w.heap.size, 2, none⟩ = some (.slice none 0 0) := r2
    have f0 : (w2.drew).frozen? ⟨w.heap.size, 0, none⟩ = false := HR2.out.frozen 0
    have f1 : (w2.drew).frozen? ⟨w.heap.size, 1, none⟩ = false := HR2.out.frozen 1
    have f2 : (w2.drew).frozen? ⟨w.heap.size, 2, none⟩ = false := HR2.out.frozen 2
    have rl : w.heap.size < (w2.drew).heap.size := HR2.out.lt
    have g0 := HR2.out.frozen 0
    have g1 := HR2.out.frozen 1
    have g2 := HR2.out.frozen 2
    have hS3 : S ((((w2.setCell ⟨w.heap.size, 0, none⟩ (.int .i64 0)).setCell ⟨w.heap.size, 1, none⟩ (.slice none 0 0)).setCell ⟨w.heap.size, 2, none⟩ (.slice none 0 0)).drew) := by
      constructor
      · show World.cell? (World.setCell (World.setCell (World.setCell _ _ _) _ _) _ _) _ = _
        rw [World.cell?_setCell_far _ _ _ _ (fun e => hne e.symm), World.cell?_setCell_far _ _ _ _ (fun e => hne e.symm), World.cell?_setCell_far _ _ _ _ (fun e => hne e.symm)]; exact HC.out.1
      · show World.cell? (World.setCell (World.setCell (World.setCell _ _ _) _ _) _ _) _ = _
        rw [World.cell?_setCell_far _ _ _ _ (fun e => hne e.symm), World.cell?_setCell_far _ _ _ _ (fun e => hne e.symm), World.cell?_setCell_far _ _ _ _ (fun e => hne e.symm)]; exact HC.out.2
    go_simp
    refine hK _ _ hS3 ?_
    clear hK K
    (try simp only [Act.put, List.setIfInBounds_toArray, List.set_cons_zero, List.set_cons_succ])
    (repeat ((refine' wpSeq_take rfl _ (by rfl) ?_ ?_; rotate_left; focus (intro w' hS; (try dsimp only at hS); obtain ⟨s1, s2⟩ := hS; go_simp; (first | done | with_reducible rfl)); (try simp only [Act.put, List.setIfInBounds_toArray, List.set_cons_zero, List.set_cons_succ])); (try simp only [Act.put, List.setIfInBounds_toArray, List.set_cons_zero, List.set_cons_succ])))
    refine wpSeq_nil ?_
    have HR9 := hid (((HR2.out.set 0 (.int .i64 0)).set 1 (.slice none 0 0)).set 2 (.slice none 0 0))
    clear hS3 S r0 r1 r2 r0' r1' r2' f0 f1 f2 g0 g1 g2
    go_wp2_with fail
    rw [HZ2.out]
    refine bodyPost_ret (results_cell3 rfl rfl (load_rib (Blk.drew HR9.out))) rfl ⟨_, rfl, rib_zero _, ?_⟩
    exact ((((HB2.out.setCell (Nat.le_refl _) _).setCell (Nat.le_refl _) _).setCell (Nat.le_refl _) _).drew)
  rw [he] at d2
  obtain ⟨hn1, hn2⟩ := HHK.out he
  have HNN := hid (And.intro hn1 hn2)
  have HQG := hid (q_graph n ⟨by omega, by omega⟩ L s1 b tb w2 HK2.out)
  have HXC := hid (fun h => (exact_check (s := s1) (fun _ => HNN.out) HTS.out h).1)
  have HXT := hid (exactG_ts n s1.ts.length [] s1 HTS.out)
  clear HHK hn1 hn2 he d3
  go_wp2_with fail
  refine HQG.out.mono ?_
  clear HQG
  rintro e w3 ⟨ev, rfl, hev, ht, hgr⟩
  generalize exactG n s1.ts.length [] s1 = x at *
  obtain ⟨es, s1'⟩ := x
  dsimp only at HZ hev ht HXC HXT
  have HR3 := hid (HR2.out.grown hgr (fun e => by have := HWB.out; simp at e; omega))
  have HB3 : Hid (Below w.heap.size w w3) := HB2.out.grown hgr HB2.out.size (fun q hq => by have := HWB.out; simp at hq; omega)
  generalize hs2 : s1'.need [59] = s2 at *
  have HT3 := hid ht
  have HV3 := hid hev
  have HW23 := hid hgr.size
  clear hs2 ht hgr HB2 HR2
  obtain ⟨ea, ecap, rfl, _⟩ := owns_at hev
  clear hev d2
  dsimp only
  go_upto_region 6 with fail
  have hst := (Below.refl w3.heap.size w3).alloc (Nat.le_refl _) (.cells #[.int .i64 n, .slice ea es.length ecap] 24)
  have HGB := hid (Blk.new w3 #[.int .i64 n, .slice ea es.length ecap] 24)
  have HB4 := hid (up HB3.out hst)
  have HT4 := hid (HT3.out.below hst)
  have HV4 := hid (owns_below HV3.out hst)
  have HR4 := hid (HR3.out.below hst)
  have HBL : Hid (b < w2.heap.size) := hbl
  have HX4 : Hid (b < w3.heap.size ∧ tb < w3.heap.size ∧ w2.heap.size ≤ w3.heap.size) := by
    have h1 := HW23.out
    have h2 := hHT.out
    show _ ∧ _; omega
  have HVB : Hid (∀ k, (Value.slice ea es.length ecap).ownBlock = some k → k < w3.heap.size) := fun k hk => (HV3.out.lt k hk).2
  clear hst HB3 HT3 HV3 HR3 hbl
  generalize w3.alloc (.cells #[.int .i64 n, .slice ea es.length ecap] 24) = W4 at *
  generalize w3.heap.size = X at *
  obtain ⟨_, _, _, _, _, _, _, _, _, _, _, _, d2, d3, _⟩ := HT4.out.cells
  have hbl := HT4.out.lt
  by_cases he2 : s2.e = 0
  case neg =>
    have HZ2 : Hid (Z = ((⟨0, []⟩, []), s2.pl, s2.e)) := by have h := HZ.out; rw [if_pos he2] at h; exact h
    clear HZ
    have he1 : (s2.e != 0) = true := by simpa using he2
    have HC := hid (And.intro d2 d3)
    clear he2
    go_upto_region 7 with fail
    clear d2 d3
    have r0 := HR4.out.cell 0
    have r1 := HR4.out.cell 1
    have r2 := HR4.out.cell 2
    simp only [List.getElem?_toArray, List.getElem?_cons_zero, List.getElem?_cons_succ] at r0 r1 r2
    have hne : b ≠ w.heap.size := by have := HWB.out; omega
    let S : World → Prop := fun W' => W'.cell? ⟨b, 2, none⟩ = some (.int .i64 s2.e) ∧ W'.cell? ⟨b, 3, none⟩ = some (.int .i64 s2.pl)
    (refine wp_region_text 7 [0,1,2,3,4,5,6] S (by kernel_rfl) (by kernel_rfl) (by intro _ _ d _ _ h; cases d <;> exact h) ?hS ?_; rotate_left; simp only [List.map_cons, List.map_nil, List.getD_cons_zero, List.getD_cons_succ, List.drop_succ_cons, List.drop_zero])
    case hS => exact HC.out
    (repeat ((refine' wpSeq_take rfl _ (by rfl) ?_ ?_; rotate_left; focus (intro w' hS; (try dsimp only at hS); obtain ⟨s1, s2⟩ := hS; go_simp; (first | done | with_reducible rfl)); (try simp only [Act.put, List.setIfInBounds_toArray, List.set_cons_zero, List.set_cons_succ])); (try simp only [Act.put, List.setIfInBounds_toArray, List.set_cons_zero, List.set_cons_succ])))
    refine wpSeq_call rfl (by rfl) (fun K hK => ?_)
    have r0' : (W4.drew).cell? ⟨w.heap.size, 0, none⟩ = some (.int .i64 0) := r0
    have r1' : (W4.drew).cell? ⟨w.heap.size, 1, none⟩ = some (.slice none 0 0) := r1
    have r2' : (W4.drew).cell? ⟨w.heap.size, 2, none⟩ = some (.slice none 0 0) := r2
    have f0 : (W4.drew).frozen? ⟨w.heap.size, 0, none⟩ = false := HR4.out.frozen 0
    have f1 : (W4.drew).frozen? ⟨w.heap.size, 1, none⟩ = false := HR4.out.frozen 1
    have f2 : (W4.drew).frozen? ⟨w.heap.size, 2, none⟩ = false := HR4.out.frozen 2
    have rl : w.heap.size < (W4.drew).heap.size := HR4.out.lt
    have g0 := HR4.out.frozen 0
    have g1 := HR4.out.frozen 1
    have g2 := HR4.out.frozen 2
    have hS3 : S ((((W4.setCell ⟨w.heap.size, 0, none⟩ (.int .i64 0)).setCell ⟨w.heap.size, 1, none⟩ (.slice none 0 0)).setCell ⟨w.heap.size, 2, none⟩ (.slice none 0 0)).drew) := by
      constructor
      · show World.cell? (World.setCell (World.setCell (World.setCell _ _ _) _ _) _ _) _ = _
        rw [World.cell?_setCell_far _ _ _ _ (fun e => hne e.symm), World.cell?_setCell_far _ _ _ _ (fun e => hne e.symm), World.cell?_setCell_far _ _ _ _ (fun e => hne e.symm)]; exact HC.out.1
      · show World.cell? (World.setCell (World.setCell (World.setCell _ _ _) _ _) _ _) _ = _
        rw [World.cell?_setCell_far _ _ _ _ (fun e => hne e.symm), World.cell?_setCell_far _ _ _ _ (fun e => hne e.symm), World.cell?_setCell_far _ _ _ _ (fun e => hne e.symm)]; exact HC.out.2
    go_simp
    refine hK _ _ hS3 ?_
    clear hK K
    (try simp only [Act.put, List.setIfInBounds_toArray, List.set_cons_zero, List.set_cons_succ])
    (repeat ((refine' wpSeq_take rfl _ (by rfl) ?_ ?_; rotate_left; focus (intro w' hS; (try dsimp only at hS); obtain ⟨s1, s2⟩ := hS; go_simp; (first | done | with_reducible rfl)); (try simp only [Act.put, List.setIfInBounds_toArray, List.set_cons_zero, List.set_cons_succ])); (try simp only [Act.put, List.setIfInBounds_toArray, List.set_cons_zero, List.set_cons_succ])))
    refine wpSeq_nil ?_
    have HR9 := hid (((HR4.out.set 0 (.int .i64 0)).set 1 (.slice none 0 0)).set 2 (.slice none 0 0))
    clear hS3 S r0 r1 r2 r0' r1' r2' f0 f1 f2 g0 g1 g2
    go_wp2_with fail
    rw [HZ2.out]
    refine bodyPost_ret (results_cell3 rfl rfl (load_rib (Blk.drew HR9.out))) rfl ⟨_, rfl, rib_zero _, ?_⟩
    exact ((((HB4.out.setCell (Nat.le_refl _) _).setCell (Nat.le_refl _) _).setCell (Nat.le_refl _) _).drew)
  rw [he2] at d2
  have hz := HZ.out
  rw [if_neg (by rw [he2]; simp)] at hz
  have HZ := hid hz
  have HCK := hid (HXC.out he2)
  have hlen := Gok.len HCK.out
  have HLE : Hid (es.length ≤ 144) := hlen
  have HSB : Hid ((endsOf es).length ≤ 7200) := by
    have h1 := endsOf_len es 50 (fun y hy => by have := Gok.mem HCK.out hy; omega)
    show _ ≤ _
    have : es.length ≤ 144 := hlen
    omega
  have HG4 : Hid (GrR W4 (.agg #[.int .i64 n, .slice ea es.length ecap]) ⟨n, es⟩) := ⟨_, rfl, owns_edges HV4.out (show es.length * 24 ≤ 140737488355328 by have : es.length ≤ 144 := hlen; omega)⟩
  have HSZ := hid (r08_Size ⟨n, es⟩ (.agg #[.int .i64 n, .slice ea es.length ecap]) W4 HG4.out HCK.out)
  clear hz hlen HXC he2 d3
  have g0 : W4.cell? ⟨X, 0, none⟩ = some (.int .i64 n) := (HGB.out.cell 0).trans rfl
  have g1 : W4.cell? ⟨X, 1, none⟩ = some (.slice ea es.length ecap) := (HGB.out.cell 1).trans rfl
  have gl := HGB.out.lt
  go_upto_region 8 with fail
  go_wp2_with fail
  refine HSZ.out.mono ?_
  rintro e w5 ⟨rfl, hB5⟩
  have HS : Hid (sizeOf ⟨n, es⟩ = ((endsOf es).length : Int)) := rfl
  rw [HS.out]
  have HT5 := hid (HT4.out.below hB5)
  have HV5 := hid (owns_below HV4.out hB5)
  have HR5 := hid (HR4.out.below hB5)
  have HB5 := hid (up HB4.out hB5)
  have HGB5 := hid (HGB.out.below hB5)
  clear hB5 HT4 HV4 HG4 HR4 HB4 HGB HSZ HS d2 hbl g0 g1 gl
  generalize hL : (endsOf es).length = LL at *
  have hLb : LL ≤ 7200 := HSB.out
  have wl : IntKind.i64.wrap (2 * (LL : Int)) = 2 * (LL : Int) := IntWalk.i64_in _ (by omega)
  have wh : IntKind.i64.wrap (2 * (LL : Int) - 1) = 2 * (LL : Int) - 1 := IntWalk.i64_in _ (by omega)
  have g0 : w5.cell? ⟨X, 0, none⟩ = some (.int .i64 n) := (HGB5.out.cell 0).trans rfl
  have g1 : w5.cell? ⟨X, 1, none⟩ = some (.slice ea es.length ecap) := (HGB5.out.cell 1).trans rfl
  have gl := HGB5.out.lt
  dsimp only
  go_upto_region 10 with fail
  have hQ0 : QrF w ((w5.alloc (.cells #[.slice none 0 0] 50)).alloc (.cells #[.int .i64 n, .slice ea es.length ecap, .slice (some ⟨w5.heap.size, 0, none⟩) 1 1] 40)) b tb (w5.heap.size + 1) w5.heap.size L n es (.slice ea es.length ecap) (.slice (some ⟨w5.heap.size, 0, none⟩) 1 1) s2 := by
    have hA := (Below.refl w5.heap.size w5).alloc (Nat.le_refl _) (.cells #[.slice none 0 0] 50)
    have hO := hA.alloc (by simp) (.cells #[.int .i64 n, .slice ea es.length ecap, .slice (some ⟨w5.heap.size, 0, none⟩) 1 1] 40)
    have hbo := Blk.new (w5.alloc (.cells #[.slice none 0 0] 50)) #[.int .i64 n, .slice ea es.length ecap, .slice (some ⟨w5.heap.size, 0, none⟩) 1 1] 40
    rw [World.size_alloc] at hbo
    have h5 := HX4.out
    exact ⟨HR5.out.below hO, hbo, owns_base (owns_below HV5.out hO) (by have := HBL.out; omega), fun k hk => by have := HVB.out k hk; omega, HT5.out.below hO, up HB5.out hO, HWB.out, by omega, by omega, by omega⟩
  have hL0 : LwI ((w5.alloc (.cells #[.slice none 0 0] 50)).alloc (.cells #[.int .i64 n, .slice ea es.length ecap, .slice (some ⟨w5.heap.size, 0, none⟩) 1 1] 40)) w5.heap.size (.slice (some ⟨w5.heap.size, 0, none⟩) 1 1) [.slice none 0 0] [[]] := by
    refine ⟨(owns_new1 _ _ _).alloc _, fun i hi => ?_, fun i j k hi hj h => ?_⟩
    · obtain rfl : i = 0 := by simpa using hi
      exact World.ownsRow_nil _ _ _ _
    · obtain rfl : i = 0 := by simpa using hi
      cases h
  obtain ⟨i0, hi0, hz0, hz1, hz2⟩ := info_parts info_ints
  have HQ0 := hid hQ0
  have HL0 := hid hL0
  have hTS2 : Hid (TsOk s2.ts) := HT5.out.1
  clear hQ0 hL0 g0 g1 gl HT5 HV5 HR5 HB5 HGB5 HX4 HVB HXT HTS HK2 HBL hHT HW23
  generalize ((w5.alloc (.cells #[.slice none 0 0] 50)).alloc (.cells #[.int .i64 n, .slice ea es.length ecap, .slice (some ⟨w5.heap.size, 0, none⟩) 1 1] 40)) = W6 at *
  generalize hO : w5.heap.size + 1 = O at *
  generalize w5.heap.size = base at *
  obtain ⟨Y, hY⟩ : ∃ Y, Y = listsG n (2 * (LL : Int)) s2.ts.length [[]] s2 := ⟨_, rfl⟩
  have HY := hid hY.symm
  rw [← hY] at HZ
  clear hY hO hL
  go_wp2_with fail
  go_loopg [38] (s2.ts.length + 1) (fun k v wr => ∃ lv vs ls s' c, Hid (QrF w wr b tb O base L n es (.slice ea es.length ecap) lv s') ∧ Hid (LwI wr base lv vs ls) ∧ Hid (0 < ls.length) ∧ Hid (LB c ls) ∧ Hid (c + s'.ts.length ≤ 5001) ∧ Hid (s'.e = 0 → s'.ts.length < k ∧ c + s'.ts.length ≤ 5000) ∧ Hid (listsG n (2 * (LL : Int)) s'.ts.length ls s' = Y))
  case atStart => exact ⟨_, _, _, s2, 1, HQ0, HL0, (by decide : 0 < 1), ⟨by decide, fun j => by cases j <;> simp⟩, by have := hTS2.out.2.1; show _ ≤ _; omega, fun _ => ⟨by omega, by have := hTS2.out.2.1; omega⟩, HY⟩
  case round =>
    clear HQ0 HL0 hTS2 HY
    obtain ⟨lv, vs, ls, s', c, HQ, HW, HLS, HLB, HSZ, HM, HY⟩ := hrel
    obtain ⟨W1, rfl⟩ : ∃ W : World, W = wr := ⟨_, rfl⟩
    go_wp2_with fail
    refine (q_done W1 b tb L s' HQ.out.tk).mono ?_
    rintro e w1 ⟨rfl, hB1⟩
    have HQ1 := hid (HQ.out.below hB1)
    have HW1 := hid (HW.out.below hB1)
    clear hB1 HQ HW
    obtain ⟨g, cap, hgc⟩ : ∃ g cap, lv = .slice (some ⟨g, 0, none⟩) ls.length cap := by
      have hls := HLS.out
      rcases HW1.out.own.2 with ⟨_, h2⟩ | ⟨g, cap, cur, h2, _⟩
      · omega
      · exact ⟨g, cap, h2⟩
    subst hgc
    have o1 : w1.cell? ⟨O, 2, none⟩ = some (.slice (some ⟨g, 0, none⟩) ls.length cap) := (HQ1.out.bo.cell 2).trans rfl
    have ol := HQ1.out.bo.lt
    cases hmr : s'.more with
    | false =>
      have HY2 : Hid ((ls, s') = Y) := by show _ = _; rw [← HY.out, listsG_end hmr]
      obtain ⟨_, _, _, _, _, _, _, _, _, _, _, _, d2, d3, _⟩ := HQ1.out.tk.cells
      have hbl := HQ1.out.tk.lt
      clear HY hmr
      by_cases he : s'.e = 0
      · rw [he] at d2
        by_cases hln : (ls.length : Int) = n
        · have hln2 : ((ls.length : Int) != n) = false := by simpa using hln
          have HF : Hid (finL n Y = s') := by show _ = _; rw [← HY2.out]; unfold finL; rw [if_neg (fun h => h.2 hln)]
          have HZ2 : Hid (Z = ((⟨n, es⟩, ls), 0, 0)) := by
            have h := HZ.out
            rw [HF.out, if_neg (by rw [he]; simp), ← HY2.out] at h
            exact h
          clear HF HZ he hln d3
          have g0 : w1.cell? ⟨O, 0, none⟩ = some (.int .i64 n) := (HQ1.out.bo.cell 0).trans rfl
          have g1 : w1.cell? ⟨O, 1, none⟩ = some (.slice ea es.length ecap) := (HQ1.out.bo.cell 1).trans rfl
          have r0 : w1.cell? ⟨w.heap.size, 0, none⟩ = some (.int .i64 0) := (HQ1.out.br.cell 0).trans rfl
          have r1 : w1.cell? ⟨w.heap.size, 1, none⟩ = some (.slice none 0 0) := (HQ1.out.br.cell 1).trans rfl
          have r2 : w1.cell? ⟨w.heap.size, 2, none⟩ = some (.slice none 0 0) := (HQ1.out.br.cell 2).trans rfl
          have f0 := HQ1.out.br.frozen 0
          have f1 := HQ1.out.br.frozen 1
          have f2 := HQ1.out.br.frozen 2
          have rl := HQ1.out.br.lt
          dsimp only
          go_wp2_with fail
          rw [HZ2.out]
          have HR7 := hid (((HQ1.out.br.set 0 (.int .i64 n)).set 1 (.slice ea es.length ecap)).set 2 (.slice (some ⟨g, 0, none⟩) ls.length cap))
          have hb1 : w.heap.size < b := HQ1.out.hRb
          have hb2 : w.heap.size < base := by have := HQ1.out.hbO; omega
          refine bodyPost_ret (results_cell3 rfl rfl (load_rib HR7.out)) rfl ⟨_, rfl, ⟨_, _, rfl, ?_, ?_⟩, ?_⟩
          · exact owns_edges (kept_row (kept_row (kept_row HQ1.out.ge (grown_set _ _ _ _) (hnk _ HQ1.out.ge (by omega))) (grown_set _ _ _ _) (hnk _ HQ1.out.ge (by omega))) (grown_set _ _ _ _) (hnk _ HQ1.out.ge (by omega))) (show es.length * 24 ≤ 140737488355328 by have := HLE.out; omega)
          · have hL9 : LsO w1 base (.slice (some ⟨g, 0, none⟩) ls.length cap) ls := ⟨vs, HW1.out.own, HW1.out.rows, HLB.out.mono (by have := HSZ.out; omega)⟩
            exact (((hL9.kept (grown_set _ _ _ _) hb2).kept (grown_set _ _ _ _) hb2).kept (grown_set _ _ _ _) hb2).read
          · exact ((HQ1.out.hB.setCell (Nat.le_refl _) _).setCell (Nat.le_refl _) _).setCell (Nat.le_refl _) _
        · have hln2 : ((ls.length : Int) != n) = true := by simpa using hln
          have HF : Hid (finL n Y = s'.fail 8 s'.now.pos) := by show _ = _; rw [← HY2.out]; unfold finL; rw [if_pos ⟨he, hln⟩]
          rw [HF.out] at HZ
          have hfe : (s'.fail 8 s'.now.pos).e ≠ 0 := fun h => fail_e (by decide) h
          clear HF he hln d3
          have q := tok_pos
          dsimp only
          go_wp2_with fail
          refine (q_now _ b tb L s' HQ1.out.tk).mono ?_
          rintro e w3 ⟨rfl, hB3⟩
          have HQ3 := hid (HQ1.out.below hB3)
          clear hB3 HQ1 HW1 d2 hbl o1 ol
          dsimp only
          go_wp2_with fail
          refine (q_fail _ b tb L s' HQ3.out.tk 8 s'.now.pos).mono ?_
          rintro e w4 ⟨rfl, ht4, hg4⟩
          have HQ4 := hid (HQ3.out.step ht4 hg4)
          clear ht4 hg4 HQ3 q
          generalize s'.fail 8 s'.now.pos = s4 at *
          obtain ⟨_, _, _, _, _, _, _, _, _, _, _, _, d2, d3, _⟩ := HQ4.out.tk.cells
          have hbl := HQ4.out.tk.lt
          have HR4 := hid HQ4.out.br
          have HB4 := hid HQ4.out.hB
          have HZ2 : Hid (Z = ((⟨0, []⟩, []), s4.pl, s4.e)) := by have h := HZ.out; rw [if_pos hfe] at h; exact h
          clear HZ
          dsimp only
          have he1 : (s4.e != 0) = true := by simpa using hfe
          have HC := hid (And.intro d2 d3)
          clear hfe
          go_upto_region 21 with fail
          clear d2 d3
          have r0 := HR4.out.cell 0
          have r1 := HR4.out.cell 1
          have r2 := HR4.out.cell 2
          simp only [List.getElem?_toArray, List.getElem?_cons_zero, List.getElem?_cons_succ] at r0 r1 r2
          have hne : b ≠ w.heap.size := by have := HWB.out; omega
          let S : World → Prop := fun W' => W'.cell? ⟨b, 2, none⟩ = some (.int .i64 s4.e) ∧ W'.cell? ⟨b, 3, none⟩ = some (.int .i64 s4.pl)
          (refine wp_region_text 7 [0,1,2,3,4,5,6] S (by kernel_rfl) (by kernel_rfl) (by intro _ _ d _ _ h; cases d <;> exact h) ?hS ?_; rotate_left; simp only [List.map_cons, List.map_nil, List.getD_cons_zero, List.getD_cons_succ, List.drop_succ_cons, List.drop_zero])
          case hS => exact HC.out
          (repeat ((refine' wpSeq_take rfl _ (by rfl) ?_ ?_; rotate_left; focus (intro w' hS; (try dsimp only at hS); obtain ⟨s1, s2⟩ := hS; go_simp; (first | done | with_reducible rfl)); (try simp only [Act.put, List.setIfInBounds_toArray, List.set_cons_zero, List.set_cons_succ])); (try simp only [Act.put, List.setIfInBounds_toArray, List.set_cons_zero, List.set_cons_succ])))
          refine wpSeq_call rfl (by rfl) (fun K hK => ?_)
          have r0' : (w4.drew).cell? ⟨w.heap.size, 0, none⟩ = some (.int .i64 0) := r0
          have r1' : (w4.drew).cell? ⟨w.heap.size, 1, none⟩ = some (.slice none 0 0) := r1
          have r2' : (w4.drew).cell? ⟨w.heap.size, 2, none⟩ = some (.slice none 0 0) := r2
          have f0 : (w4.drew).frozen? ⟨w.heap.size, 0, none⟩ = false := HR4.out.frozen 0
          have f1 : (w4.drew).frozen? ⟨w.heap.size, 1, none⟩ = false := HR4.out.frozen 1
          have f2 : (w4.drew).frozen? ⟨w.heap.size, 2, none⟩ = false := HR4.out.frozen 2
          have rl : w.heap.size < (w4.drew).heap.size := HR4.out.lt
          have g0 := HR4.out.frozen 0
          have g1 := HR4.out.frozen 1
          have g2 := HR4.out.frozen 2
          have hS3 : S ((((w4.setCell ⟨w.heap.size, 0, none⟩ (.int .i64 0)).setCell ⟨w.heap.size, 1, none⟩ (.slice none 0 0)).setCell ⟨w.heap.size, 2, none⟩ (.slice none 0 0)).drew) := by
            constructor
            · show World.cell? (World.setCell (World.setCell (World.setCell _ _ _) _ _) _ _) _ = _
              rw [World.cell?_setCell_far _ _ _ _ (fun e => hne e.symm), World.cell?_setCell_far _ _ _ _ (fun e => hne e.symm), World.cell?_setCell_far _ _ _ _ (fun e => hne e.symm)]; exact HC.out.1
            · show World.cell? (World.setCell (World.setCell (World.setCell _ _ _) _ _) _ _) _ = _
              rw [World.cell?_setCell_far _ _ _ _ (fun e => hne e.symm), World.cell?_setCell_far _ _ _ _ (fun e => hne e.symm), World.cell?_setCell_far _ _ _ _ (fun e => hne e.symm)]; exact HC.out.2
          go_simp
          refine hK _ _ hS3 ?_
          clear hK K
          (try simp only [Act.put, List.setIfInBounds_toArray, List.set_cons_zero, List.set_cons_succ])
          (repeat ((refine' wpSeq_take rfl _ (by rfl) ?_ ?_; rotate_left; focus (intro w' hS; (try dsimp only at hS); obtain ⟨s1, s2⟩ := hS; go_simp; (first | done | with_reducible rfl)); (try simp only [Act.put, List.setIfInBounds_toArray, List.set_cons_zero, List.set_cons_succ])); (try simp only [Act.put, List.setIfInBounds_toArray, List.set_cons_zero, List.set_cons_succ])))
          refine wpSeq_nil ?_
          have HR9 := hid (((HR4.out.set 0 (.int .i64 0)).set 1 (.slice none 0 0)).set 2 (.slice none 0 0))
          clear hS3 S r0 r1 r2 r0' r1' r2' f0 f1 f2 g0 g1 g2
          go_wp2_with fail
          rw [HZ2.out]
          refine bodyPost_ret (results_cell3 rfl rfl (load_rib (Blk.drew HR9.out))) rfl ⟨_, rfl, rib_zero _, ?_⟩
          exact ((((HB4.out.setCell (Nat.le_refl _) _).setCell (Nat.le_refl _) _).setCell (Nat.le_refl _) _).drew)
      · have he0 : (s'.e == 0) = false := by simpa using he
        have HF : Hid (finL n Y = s') := by show _ = _; rw [← HY2.out]; unfold finL; rw [if_neg (fun h => he h.1)]
        rw [HF.out] at HZ
        have HR4 := hid HQ1.out.br
        have HB4 := hid HQ1.out.hB
        have HZ2 : Hid (Z = ((⟨0, []⟩, []), s'.pl, s'.e)) := by have h := HZ.out; rw [if_pos he] at h; exact h
        clear HZ HF o1 ol
        dsimp only
        have he1 : (s'.e != 0) = true := by simpa using he
        have HC := hid (And.intro d2 d3)
        clear he
        go_upto_region 21 with fail
        clear d2 d3
        have r0 := HR4.out.cell 0
        have r1 := HR4.out.cell 1
        have r2 := HR4.out.cell 2
        simp only [List.getElem?_toArray, List.getElem?_cons_zero, List.getElem?_cons_succ] at r0 r1 r2
        have hne : b ≠ w.heap.size := by have := HWB.out; omega
        let S : World → Prop := fun W' => W'.cell? ⟨b, 2, none⟩ = some (.int .i64 s'.e) ∧ W'.cell? ⟨b, 3, none⟩ = some (.int .i64 s'.pl)
        (refine wp_region_text 7 [0,1,2,3,4,5,6] S (by kernel_rfl) (by kernel_rfl) (by intro _ _ d _ _ h; cases d <;> exact h) ?hS ?_; rotate_left; simp only [List.map_cons, List.map_nil, List.getD_cons_zero, List.getD_cons_succ, List.drop_succ_cons, List.drop_zero])
        case hS => exact HC.out
        (repeat ((refine' wpSeq_take rfl _ (by rfl) ?_ ?_; rotate_left; focus (intro w' hS; (try dsimp only at hS); obtain ⟨s1, s2⟩ := hS; go_simp; (first | done | with_reducible rfl)); (try simp only [Act.put, List.setIfInBounds_toArray, List.set_cons_zero, List.set_cons_succ])); (try simp only [Act.put, List.setIfInBounds_toArray, List.set_cons_zero, List.set_cons_succ])))
        refine wpSeq_call rfl (by rfl) (fun K hK => ?_)
        have r0' : (w1.drew).cell? ⟨w.heap.size, 0, none⟩ = some (.int .i64 0) := r0
        have r1' : (w1.drew).cell? ⟨w.heap.size, 1, none⟩ = some (.slice none 0 0) := r1
        have r2' : (w1.drew).cell? ⟨w.heap.size, 2, none⟩ = some (.slice none 0 0) := r2
        have f0 : (w1.drew).frozen? ⟨w.heap.size, 0, none⟩ = false := HR4.out.frozen 0
        have f1 : (w1.drew).frozen? ⟨w.heap.size, 1, none⟩ = false := HR4.out.frozen 1
        have f2 : (w1.drew).frozen? ⟨w.heap.size, 2, none⟩ = false := HR4.out.frozen 2
        have rl : w.heap.size < (w1.drew).heap.size := HR4.out.lt
        have g0 := HR4.out.frozen 0
        have g1 := HR4.out.frozen 1
        have g2 := HR4.out.frozen 2
        have hS3 : S ((((w1.setCell ⟨w.heap.size, 0, none⟩ (.int .i64 0)).setCell ⟨w.heap.size, 1, none⟩ (.slice none 0 0)).setCell ⟨w.heap.size, 2, none⟩ (.slice none 0 0)).drew) := by
          constructor
          · show World.cell? (World.setCell (World.setCell (World.setCell _ _ _) _ _) _ _) _ = _
            rw [World.cell?_setCell_far _ _ _ _ (fun e => hne e.symm), World.cell?_setCell_far _ _ _ _ (fun e => hne e.symm), World.cell?_setCell_far _ _ _ _ (fun e => hne e.symm)]; exact HC.out.1
          · show World.cell? (World.setCell (World.setCell (World.setCell _ _ _) _ _) _ _) _ = _
            rw [World.cell?_setCell_far _ _ _ _ (fun e => hne e.symm), World.cell?_setCell_far _ _ _ _ (fun e => hne e.symm), World.cell?_setCell_far _ _ _ _ (fun e => hne e.symm)]; exact HC.out.2
        go_simp
        refine hK _ _ hS3 ?_
        clear hK K
        (try simp only [Act.put, List.setIfInBounds_toArray, List.set_cons_zero, List.set_cons_succ])
        (repeat ((refine' wpSeq_take rfl _ (by rfl) ?_ ?_; rotate_left; focus (intro w' hS; (try dsimp only at hS); obtain ⟨s1, s2⟩ := hS; go_simp; (first | done | with_reducible rfl)); (try simp only [Act.put, List.setIfInBounds_toArray, List.set_cons_zero, List.set_cons_succ])); (try simp only [Act.put, List.setIfInBounds_toArray, List.set_cons_zero, List.set_cons_succ])))
        refine wpSeq_nil ?_
        have HR9 := hid (((HR4.out.set 0 (.int .i64 0)).set 1 (.slice none 0 0)).set 2 (.slice none 0 0))
        clear hS3 S r0 r1 r2 r0' r1' r2' f0 f1 f2 g0 g1 g2
        go_wp2_with fail
        rw [HZ2.out]
        refine bodyPost_ret (results_cell3 rfl rfl (load_rib (Blk.drew HR9.out))) rfl ⟨_, rfl, rib_zero _, ?_⟩
        exact ((((HB4.out.setCell (Nat.le_refl _) _).setCell (Nat.le_refl _) _).setCell (Nat.le_refl _) _).drew)
    | true =>
      have hme := more_e hmr
      have HM0 := hid (HM.out hme.1)
      have hlz : s'.ts.length = (s'.ts.length - 1) + 1 := by have := HQ1.out.tk.1.1; omega
      have hz := HY.out
      rw [hlz] at hz
      have HY := hid hz
      have HMR := hid hmr
      clear hme hlz hz hmr HM o1 ol
      dsimp only
      go_wp2_with fail
      refine (q_is w1 b tb L s' HQ1.out.tk [47]).mono ?_
      rintro e w2 ⟨rfl, hB2⟩
      have HQ2 := hid (HQ1.out.below hB2)
      have HW2 := hid (HW1.out.below hB2)
      clear hB2 HQ1 HW1
      have o1 : w2.cell? ⟨O, 2, none⟩ = some (.slice (some ⟨g, 0, none⟩) ls.length cap) := (HQ2.out.bo.cell 2).trans rfl
      have ol := HQ2.out.bo.lt
      cases his : s'.is [47] with
      | false =>
        have hz := HY.out
        rw [listsG_num HMR.out his] at hz
        have HY2 := hid hz
        have HNT := hid (num_ts HQ2.out.tk.1 0 (2 * (LL : Int) - 1))
        obtain ⟨j, hj⟩ : ∃ j, ls.length = j + 1 := ⟨ls.length - 1, by have := HLS.out; omega⟩
        have hlI : IntKind.i64.wrap ((ls.length : Int) - 1) = (j : Int) := by rw [IntWalk.i64_in _ (by have := HLB.out.1; have := HSZ.out; omega)]; omega
        have hjI : (j : Int) < (ls.length : Int) := by omega
        have hj0 : (0 : Int) ≤ (j : Int) := by omega
        have hjN : j < ls.length := by omega
        have HJ := hid hj
        have hgl := (HW2.out.own.lt g rfl).2
        have hgb := (HW2.out.own.lt g rfl).1
        have cj : w2.cell? ⟨g, j, none⟩ = some (vs[j]?.getD undef) := by
          rw [HW2.out.own.cellAt j (by omega)]
          rw [List.getElem?_eq_getElem (by have := HW2.out.len; omega)]; rfl
        have HCJ := hid cj
        have hgrb : Hid (g ≠ b ∧ g ≠ O) := ⟨by have := HQ2.out.hbO; omega, (HQ2.out.row HW2.out.own (by decide) g rfl).2⟩
        have hObn : Hid (O ≠ b) := by have := HQ2.out.hbO; have := HQ2.out.hOb; show _ ≠ _; omega
        clear hz HY his hj cj
        dsimp only
        go_upto_region 13 with fail
        have HQ3 := hid (HQ2.out.below (Below.drew (Below.refl _ _)))
        have HW3 := hid (HW2.out.below (Below.drew (Below.refl _ _)))
        let S : World → Prop := fun W' => W'.cell? ⟨g, j, none⟩ = some (vs[j]?.getD undef) ∧ W'.cell? ⟨O, 2, none⟩ = some (.slice (some ⟨g, 0, none⟩) ls.length cap)
        (refine wp_region_text 14 [0,1,2,3,4,5,6,7,8,9,10,11,12,13] S (by kernel_rfl) (by kernel_rfl) (by intro _ _ d _ _ h; cases d <;> exact h) ?hS ?_; rotate_left; simp only [List.map_cons, List.map_nil, List.getD_cons_zero, List.getD_cons_succ, List.drop_succ_cons, List.drop_zero])
        case hS => exact ⟨HCJ.out, o1⟩
        (repeat ((refine' wpSeq_take rfl _ (by rfl) ?_ ?_; rotate_left; focus (intro w' hS; (try dsimp only at hS); obtain ⟨s0, s1⟩ := hS; go_simp; (first | done | with_reducible rfl)); (try simp only [Act.put, List.setIfInBounds_toArray, List.set_cons_zero, List.set_cons_succ])); (try simp only [Act.put, List.setIfInBounds_toArray, List.set_cons_zero, List.set_cons_succ])))
        (refine wpSeq_call rfl (by rfl) (fun K hK => ?_); go_simp; refine ((q_number _ b tb L s' HQ3.out.tk 0 (2 * (LL : Int) - 1))).mono ?_; rintro e w4 ⟨rfl, ht4, hg4⟩; refine hK _ _ ((show w4.cell? _ = _ ∧ w4.cell? _ = _ from ⟨((World.cell?_of_block (hg4.block g hgl (by simpa using hgrb.out.1))).trans HCJ.out), ((World.cell?_of_block (hg4.block O ol (by simpa using hObn.out))).trans o1)⟩)) ?_; clear hK K; (try simp only [Act.put, List.setIfInBounds_toArray, List.set_cons_zero, List.set_cons_succ]))
        have HQ4 := hid (HQ3.out.step ht4 hg4)
        have HW4 := hid (HW3.out.low hg4 (fun k hk => by have := HQ3.out.hbO; simp at hk; omega))
        have HC4 : Hid (w4.cell? ⟨g, j, none⟩ = some (vs[j]?.getD undef) ∧ w4.cell? ⟨O, 2, none⟩ = some (.slice (some ⟨g, 0, none⟩) ls.length cap)) := ⟨(World.cell?_of_block (hg4.block g hgl (by simpa using hgrb.out.1))).trans HCJ.out, (World.cell?_of_block (hg4.block O ol (by simpa using hObn.out))).trans o1⟩
        clear ht4 hg4 HQ3 HQ2 HCJ HW2 HW3 o1 ol hgl
        generalize hp : s'.num 0 (2 * (LL : Int) - 1) = p at *
        obtain ⟨x, s2'⟩ := p
        clear hp
        have hgl4 := (HW4.out.own.lt g rfl).2
        have hol4 := HQ4.out.bo.lt
        refine wpSeq_call rfl (by rfl) (fun K hK => ?_)
        go_simp
        refine hK _ _ (show (w4.alloc _).cell? _ = _ ∧ (w4.alloc _).cell? _ = _ from ⟨((World.cell?_alloc_old _ _ _ (by simp; omega)).trans HC4.out.1), ((World.cell?_alloc_old _ _ _ (by simp; omega)).trans HC4.out.2)⟩) ?_
        clear hK K
        (try simp only [Act.put, List.setIfInBounds_toArray, List.set_cons_zero, List.set_cons_succ])
        (repeat ((refine' wpSeq_take rfl _ (by rfl) ?_ ?_; rotate_left; focus (intro w' hS; (try dsimp only at hS); obtain ⟨s0, s1⟩ := hS; go_simp; (first | done | with_reducible rfl)); (try simp only [Act.put, List.setIfInBounds_toArray, List.set_cons_zero, List.set_cons_succ])); (try simp only [Act.put, List.setIfInBounds_toArray, List.set_cons_zero, List.set_cons_succ])))
        refine wpSeq_call rfl (by rfl) (fun K hK => ?_)
        have hbs : base ≤ w4.heap.size := by omega
        refine wp_app1L w4 _ _ 50 rfl 3 und_ints info_int base _ (ls[j]?.getD []) (HW4.out.rows j hjN) x w4.heap.size rfl rfl rfl (by have := HLB.out.2 j; have := HSZ.out; omega) hbs ?_
        intro bn cn w9 ho9 hg9 hat9 hlt9
        have hrow := HQ4.out.row (HW4.out.rows j hjN) (by decide)
        have HQ9 := hid (HQ4.out.high hg9 hrow)
        have HA := hid (HW4.out.app hjN ho9 hg9 hat9)
        have hgO : Hid (∀ k, some g = some k → base ≤ k ∧ k ≠ O) := HQ4.out.row HW4.out.own (by decide)
        have HC9 : Hid (w9.cell? ⟨g, j, none⟩ = some (vs[j]?.getD undef) ∧ w9.cell? ⟨O, 2, none⟩ = some (.slice (some ⟨g, 0, none⟩) ls.length cap)) := ⟨(World.cell?_of_block (hg9.block g hgl4 (fun e => HW4.out.dio hjN e.symm rfl))).trans HC4.out.1, (HQ9.out.bo.cell 2).trans rfl⟩
        have hgl9 : g < w9.heap.size := Nat.lt_of_lt_of_le hgl4 hg9.size
        have HF9 : Hid (w9.frozen? ⟨g, j, none⟩ = false) := by
          have ho1 := kept_row HW4.out.own hg9 (fun k hk e => HW4.out.dio hjN e hk)
          exact own_frozen ho1 rfl j
        generalize hm : (ls[j]?.getD [] ++ [x]).length = m at *
        clear hm hrow
        refine hK _ _ HC9.out ?_
        clear hK K
        (try simp only [Act.put, List.setIfInBounds_toArray, List.set_cons_zero, List.set_cons_succ])
        (repeat ((refine' wpSeq_take rfl _ (by rfl) ?_ ?_; rotate_left; focus (intro w' hS; (try dsimp only at hS); obtain ⟨s0, s1⟩ := hS; go_simp; (first | done | with_reducible rfl)); (try simp only [Act.put, List.setIfInBounds_toArray, List.set_cons_zero, List.set_cons_succ])); (try simp only [Act.put, List.setIfInBounds_toArray, List.set_cons_zero, List.set_cons_succ])))
        refine wpSeq_nil ?_
        have c9 := HC9.out.1
        have f9 := HF9.out
        have HX := hid (HLB.out.put j x)
        have HPL := hid (putLast_set ls j HJ.out x)
        clear S ho9 hg9 hat9 hlt9 HQ4 HW4 HC4 hgl4 hol4 HC9 HF9 hlI hbs
        have HY2 : Hid (listsG n (2 * (LL : Int)) (s'.ts.length - 1) (putLast ls x) s2' = Y) := HY2
        have HNT : Hid (TsOk s2'.ts ∧ s2'.ts.length ≤ s'.ts.length ∧ (s2'.e = 0 → s2'.ts.length < s'.ts.length)) := HNT
        go_wp2_with fail
        have HQA := hid (HQ9.out.high (grown_set w9 g j (.slice (some ⟨bn, 0, none⟩) m cn)) hgO.out)
        go_roundg (gk - 1)
        case measure => have := HM0.out.1; omega
        case rel =>
          refine ⟨_, _, _, s2', c + 1, HQA, HA, by show 0 < _; rw [List.length_set]; exact HLS.out, HX, by have := HNT.out.2.1; have := HM0.out.2; show _ ≤ _; omega, fun h => by have := HNT.out.2.2 h; have := HM0.out; omega, ?_⟩
          show _ = _
          rw [← HY2.out, ← HPL.out]
          by_cases he : s2'.e = 0
          · exact listsG_fuel n (2 * (LL : Int)) _ _ _ _ HNT.out.1 (Nat.le_refl _) (by have := HNT.out.2.2 he; omega)
          · rw [listsG_end (not_more he), listsG_end (not_more he)]
      | true =>
        have hz := HY.out
        rw [listsG_sep HMR.out his] at hz
        have HY2 := hid hz
        have hik := Rs.is_kind his
        have HK := hid (kind_len HQ2.out.tk.1 hik.1)
        have HK3 := hid hik.1
        clear hz HY his hik
        by_cases hln : (ls.length : Int) = n
        · have HSF : Hid (shapeF n ls s' = s'.fail 8 s'.now.pos) := by show _ = _; unfold shapeF; rw [if_pos hln]
          have hln2 : ((ls.length : Int) == n) = true := by simpa using hln
          clear hln
          have q := tok_pos
          dsimp only
          go_wp2_with fail
          refine (q_now _ b tb L s' HQ2.out.tk).mono ?_
          rintro e w3 ⟨rfl, hB3⟩
          have HQ3 := hid (HQ2.out.below hB3)
          have HW3 := hid (HW2.out.below hB3)
          clear hB3 HQ2 HW2 o1 ol
          dsimp only
          go_wp2_with fail
          refine (q_fail _ b tb L s' HQ3.out.tk 8 s'.now.pos).mono ?_
          rintro e w4 ⟨rfl, ht4, hg4⟩
          have HQ4 := hid (HQ3.out.step ht4 hg4)
          have HW4 := hid (HW3.out.low hg4 (fun k hk => by have := HQ3.out.hbO; simp at hk; omega))
          clear ht4 hg4 HQ3 HW3 q
          rw [← HSF.out] at HQ4
          dsimp only
          have HTS := hid (shapeF_ts n ls s')
          have HNW : Hid ((shapeF n ls s').now.kind ≠ 3) := by
            show (shapeF n ls s').now.kind ≠ 3
            unfold Rs.now
            rw [HTS.out]
            exact HK3.out
          generalize shapeF n ls s' = s3 at *
          obtain ⟨jj, hjj, cjj, hadv⟩ := HQ4.out.tk.step1 HNW.out
          have hbl4 := HQ4.out.tk.lt
          have fjj := HQ4.out.tk.frozen 1
          have wjj : IntKind.i64.wrap ((jj : Int) + 1) = (jj : Int) + 1 := IntWalk.i64_in _ (by omega)
          have HQ5 := hid (HQ4.out.step hadv (grown_set _ _ _ _))
          have HW5 := hid (HW4.out.low (grown_set w4 b 1 (.int .i64 ((jj : Int) + 1))) (fun k hk => by have := HQ4.out.hbO; simp at hk; omega))
          go_upto_region 17 with fail
          clear cjj fjj wjj hbl4 hadv HQ4 HW4
          have HK5 : Hid (TsOk s3.skip.ts ∧ s3.skip.ts.length + 1 = s'.ts.length) := by
            show TsOk (s3.ts.drop 1) ∧ (s3.ts.drop 1).length + 1 = _
            rw [HTS.out]
            exact HK.out
          generalize w4.setCell ⟨b, 1, none⟩ (.int .i64 ((jj : Int) + 1)) = w5 at *
          clear HNW HTS HK HK3 HSF
          generalize s3.skip = s4 at *
          have hlb : ls.length ≤ 5001 := by have := HLB.out.1; have := HSZ.out; omega
          have hbs : base ≤ w5.heap.size := by have := (HW5.out.own.lt g rfl); omega
          have o1 : w5.cell? ⟨O, 2, none⟩ = some (.slice (some ⟨g, 0, none⟩) ls.length cap) := (HQ5.out.bo.cell 2).trans rfl
          have ol := HQ5.out.bo.lt
          go_wp2_with (at_builtin; go_must (refine wpList_append_own _ rfl _ _ 38 rfl base 50 i0 (.slice none 0 0) 1 24 und_lists hi0 hz0 hz1 hz2 rfl (by decide) (.slice (some ⟨g, 0, none⟩) ls.length cap) ls.length _ rfl (HW5.out.own.alloc _) ⟨w5.heap.size, 0, none⟩ 1 1 [.slice none 0 0] rfl rfl (cell_one_new _ _ _) (by simp [Value.oneCell']) (by unfold maxLen; omega) (by omega) (by simp; omega) ?_; intro v' w9 hown9 hgr9 _; obtain ⟨va, vc, rfl, _⟩ := owns_at hown9; have hgT := ((Below.toGrown ((Below.refl _ w5).alloc (Nat.le_refl _) (.cells #[.slice none 0 0] 50)) _).trans hgr9); have HA := hid (HW5.out.push hown9 hgT); have HQ9 := hid (HQ5.out.high hgT (HQ5.out.row HW5.out.own (by decide))); have q9 : w9.cell? ⟨O, 2, none⟩ = some (.slice (some ⟨g, 0, none⟩) ls.length cap) := (HQ9.out.bo.cell 2).trans rfl; have f9 := HQ9.out.bo.frozen 2; have l9 := HQ9.out.bo.lt; clear hown9 hgr9 hgT o1 ol))
          have HA2 := hid (HA.out.put HQ9.out.bo 2 (.slice va (ls.length + 1) vc))
          have HQ10 := hid (HQ9.out.put (.slice va (ls.length + 1) vc))
          go_roundg (gk - 1)
          case measure => have := HM0.out.1; omega
          case rel =>
            refine ⟨_, _, _, s4, c + 1, HQ10, HA2, by show 0 < _; rw [List.length_append]; simp, HLB.out.push, by have := HK5.out.2; have := HM0.out.2; show _ ≤ _; omega, fun h => by have := HK5.out.2; have := HM0.out; omega, ?_⟩
            show _ = _
            rw [← HY2.out]
            exact listsG_fuel n (2 * (LL : Int)) _ _ _ _ HK5.out.1 (Nat.le_refl _) (by have := HK5.out.2; omega)
        · have HSF : Hid (shapeF n ls s' = s') := by show _ = _; unfold shapeF; rw [if_neg hln]
          have hln2 : ((ls.length : Int) == n) = false := by simpa using hln
          clear hln
          have HQ4 := hid (show QrF w w2 b tb O base L n es (.slice ea es.length ecap) (.slice (some ⟨g, 0, none⟩) ls.length cap) (shapeF n ls s') by rw [HSF.out]; exact HQ2.out)
          have HW4 := HW2
          clear HQ2 HW2
          obtain ⟨w4, rfl⟩ : ∃ W : World, W = w2 := ⟨_, rfl⟩
          dsimp only
          go_upto_region 16 with fail
          clear o1 ol
          have HTS := hid (shapeF_ts n ls s')
          have HNW : Hid ((shapeF n ls s').now.kind ≠ 3) := by
            show (shapeF n ls s').now.kind ≠ 3
            unfold Rs.now
            rw [HTS.out]
            exact HK3.out
          generalize shapeF n ls s' = s3 at *
          obtain ⟨jj, hjj, cjj, hadv⟩ := HQ4.out.tk.step1 HNW.out
          have hbl4 := HQ4.out.tk.lt
          have fjj := HQ4.out.tk.frozen 1
          have wjj : IntKind.i64.wrap ((jj : Int) + 1) = (jj : Int) + 1 := IntWalk.i64_in _ (by omega)
          have HQ5 := hid (HQ4.out.step hadv (grown_set _ _ _ _))
          have HW5 := hid (HW4.out.low (grown_set w4 b 1 (.int .i64 ((jj : Int) + 1))) (fun k hk => by have := HQ4.out.hbO; simp at hk; omega))
          go_upto_region 17 with fail
          clear cjj fjj wjj hbl4 hadv HQ4 HW4
          have HK5 : Hid (TsOk s3.skip.ts ∧ s3.skip.ts.length + 1 = s'.ts.length) := by
            show TsOk (s3.ts.drop 1) ∧ (s3.ts.drop 1).length + 1 = _
            rw [HTS.out]
            exact HK.out
          generalize w4.setCell ⟨b, 1, none⟩ (.int .i64 ((jj : Int) + 1)) = w5 at *
          clear HNW HTS HK HK3 HSF
          generalize s3.skip = s4 at *
          have hlb : ls.length ≤ 5001 := by have := HLB.out.1; have := HSZ.out; omega
          have hbs : base ≤ w5.heap.size := by have := (HW5.out.own.lt g rfl); omega
          have o1 : w5.cell? ⟨O, 2, none⟩ = some (.slice (some ⟨g, 0, none⟩) ls.length cap) := (HQ5.out.bo.cell 2).trans rfl
          have ol := HQ5.out.bo.lt
          go_wp2_with (at_builtin; go_must (refine wpList_append_own _ rfl _ _ 38 rfl base 50 i0 (.slice none 0 0) 1 24 und_lists hi0 hz0 hz1 hz2 rfl (by decide) (.slice (some ⟨g, 0, none⟩) ls.length cap) ls.length _ rfl (HW5.out.own.alloc _) ⟨w5.heap.size, 0, none⟩ 1 1 [.slice none 0 0] rfl rfl (cell_one_new _ _ _) (by simp [Value.oneCell']) (by unfold maxLen; omega) (by omega) (by simp; omega) ?_; intro v' w9 hown9 hgr9 _; obtain ⟨va, vc, rfl, _⟩ := owns_at hown9; have hgT := ((Below.toGrown ((Below.refl _ w5).alloc (Nat.le_refl _) (.cells #[.slice none 0 0] 50)) _).trans hgr9); have HA := hid (HW5.out.push hown9 hgT); have HQ9 := hid (HQ5.out.high hgT (HQ5.out.row HW5.out.own (by decide))); have q9 : w9.cell? ⟨O, 2, none⟩ = some (.slice (some ⟨g, 0, none⟩) ls.length cap) := (HQ9.out.bo.cell 2).trans rfl; have f9 := HQ9.out.bo.frozen 2; have l9 := HQ9.out.bo.lt; clear hown9 hgr9 hgT o1 ol))
          have HA2 := hid (HA.out.put HQ9.out.bo 2 (.slice va (ls.length + 1) vc))
          have HQ10 := hid (HQ9.out.put (.slice va (ls.length + 1) vc))
          go_roundg (gk - 1)
          case measure => have := HM0.out.1; omega
          case rel =>
            refine ⟨_, _, _, s4, c + 1, HQ10, HA2, by show 0 < _; rw [List.length_append]; simp, HLB.out.push, by have := HK5.out.2; have := HM0.out.2; show _ ≤ _; omega, fun h => by have := HK5.out.2; have := HM0.out; omega, ?_⟩
            show _ = _
            rw [← HY2.out]
            exact listsG_fuel n (2 * (LL : Int)) _ _ _ _ HK5.out.1 (Nat.le_refl _) (by have := HK5.out.2; omega)

end Go.Proofs.YtemmepgfngkgmaaGreatDoor
