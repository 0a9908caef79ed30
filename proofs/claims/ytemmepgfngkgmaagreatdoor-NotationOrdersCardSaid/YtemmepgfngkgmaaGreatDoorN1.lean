/-
  The tokens that are still to be read, in memory; contracts of the notation's tokens: now, fail, is, skip, need, more.
-/
import Derived.Test.YtemmepgfngkgmaaGreatDoorN0
import Derived.Test.YtemmepgfngkgmaaGreatDoorK6
namespace Go.Proofs.YtemmepgfngkgmaaGreatDoor
open Go.RowKit
set_option linter.unusedVariables false
set_option linter.unusedSimpArgs false

theorem grown_trans {A B C : World} {r : Option Nat} (h : A.grownBy B r) (h2 : B.grownBy C r) : A.grownBy C r :=
  ⟨h2.os.trans h.os, h2.tape.trans h.tape, h2.output.trans h.output, Nat.le_trans h.size h2.size, fun k hk hr => (h2.block k (Nat.lt_of_lt_of_le hk h.size) hr).trans (h.block k hk hr)⟩
theorem grown_of {w w' : World} (h : Below w.heap.size w w') (r : Option Nat) : w.grownBy w' r := ⟨h.os, h.tape, h.output, h.size, fun k hk _ => h.block k hk⟩
theorem below_of_grown {B : Nat} {W w w' : World} {b : Nat} (hB : Below B W w) (hg : w.grownBy w' (some b)) (hs : B ≤ w.heap.size) (hb : B ≤ b) : Below B W w' := hB.grown hg hs (fun k e => by cases e; exact hb)

/-- A list of tokens that ends with its end. -/
def TsOk (l : List Tok) : Prop := 0 < l.length ∧ l.length ≤ 4097 ∧ (l[l.length - 1]?.getD default).kind = 3 ∧ ∀ t ∈ l, t.text.length ≤ 4096
theorem TsOk.two {l : List Tok} (h : TsOk l) (h3 : (l[0]?.getD default).kind ≠ 3) : 2 ≤ l.length := by
  obtain ⟨h1, _, h2, _⟩ := h
  by_cases e : l.length = 1
  · rw [e] at h2; exact absurd h2 h3
  · omega
theorem TsOk.drop {l : List Tok} (h : TsOk l) (h3 : (l[0]?.getD default).kind ≠ 3) : TsOk (l.drop 1) := by
  have h2 := h.two h3
  obtain ⟨_, hl, he, ht⟩ := h
  refine ⟨by simp; omega, by simp; omega, ?_, fun t h => ht t (List.mem_of_mem_drop h)⟩
  rw [List.getElem?_drop, List.length_drop, show 1 + (l.length - 1 - 1) = l.length - 1 by omega]
  exact he
theorem TsOk.text {l : List Tok} (h : TsOk l) (k : Nat) : (l[k]?.getD default).text.length ≤ 4096 := by
  by_cases hk : k < l.length
  · rw [List.getElem?_eq_getElem hk]; exact h.2.2.2 _ (List.getElem_mem hk)
  · rw [List.getElem?_eq_none (by omega)]; decide

theorem ToksR.grown {w w' : World} {a : Option Addr} {n cap b : Nat} {l : List Tok} (h : ToksR w (.slice a n cap) l) (hg : w.grownBy w' (some b)) (hne : ∀ x, a = some x → x.block ≠ b) : ToksR w' (.slice a n cap) l := by
  obtain ⟨a', cap', e, h2, h3, h4, h5⟩ := h
  injection e with e1 e2 e3
  subst e1 e2 e3
  refine ⟨a, _, rfl, h2, h3, h4, ?_⟩
  rcases h5 with h5 | ⟨tb, off, rfl, hl, hc⟩
  · exact .inl h5
  · refine .inr ⟨tb, off, rfl, Nat.lt_of_lt_of_le hl hg.size, fun i hi => ?_⟩
    rw [World.cell?_of_block (hg.block tb hl (by have := hne _ rfl; simpa using this))]
    exact hc i hi

/-- What is to be read, at the head of block b. -/
def Tk (w : World) (b tb : Nat) (T : TypeId) (rest : List Value) (s : Rs) : Prop :=
  TsOk s.ts ∧ ∃ off cap, Blk w b (Value.slice (some ⟨tb, off, none⟩) s.ts.length cap :: Value.int .i64 s.e :: Value.int .i64 s.pl :: rest).toArray T ∧ tb ≠ b ∧ ToksR w (.slice (some ⟨tb, off, none⟩) s.ts.length cap) s.ts

theorem Tk.lt {w : World} {b tb : Nat} {T : TypeId} {rest : List Value} {s : Rs} (h : Tk w b tb T rest s) : b < w.heap.size := by obtain ⟨_, _, _, hb, _⟩ := h; exact hb.lt
theorem Tk.below {w w' : World} {b tb : Nat} {T : TypeId} {rest : List Value} {s : Rs} (h : Tk w b tb T rest s) (hB : Below w.heap.size w w') : Tk w' b tb T rest s := by
  obtain ⟨h0, off, cap, hb, hne, ht⟩ := h
  exact ⟨h0, off, cap, hb.below hB, hne, ht.below hB⟩
/-- The cells that a step reads. -/
theorem Tk.cells {w : World} {b tb : Nat} {T : TypeId} {rest : List Value} {s : Rs} (h : Tk w b tb T rest s) :
    ∃ off cap, tb < w.heap.size ∧ tb ≠ b ∧ 0 < s.ts.length ∧ s.ts.length ≤ cap ∧ cap ≤ 9223372036854775807 ∧ w.cell? ⟨b, 0, none⟩ = some (.slice (some ⟨tb, off, none⟩) s.ts.length cap) ∧ w.cell? ⟨b, 1, none⟩ = some (.int .i64 s.e) ∧ w.cell? ⟨b, 2, none⟩ = some (.int .i64 s.pl) ∧
      w.cell? ⟨tb, off, none⟩ = some (.int .i64 s.now.kind) ∧ w.cell? ⟨tb, off + 1, none⟩ = some (.string (str s.now.text)) ∧ w.cell? ⟨tb, off + 2, none⟩ = some (.int .i64 s.now.pos) ∧ (∀ k, w.frozen? ⟨b, k, none⟩ = false) := by
  obtain ⟨h0, off, cap, hb, hne, ht⟩ := h
  obtain ⟨a', cap', e, h2, h3, h4, h5⟩ := ht
  injection e with e1 e2 e3
  subst e1 e3
  obtain ⟨b', off', e, hlt, hc⟩ := h5.tok h0.1
  obtain ⟨rfl, rfl⟩ : tb = b' ∧ off = off' := by simpa using e
  obtain ⟨c0, c1, c2⟩ := hc 0 h0.1
  have d0 := hb.cell 0
  have d1 := hb.cell 1
  have d2 := hb.cell 2
  simp only [List.getElem?_toArray, List.getElem?_cons_zero, List.getElem?_cons_succ] at d0 d1 d2
  rw [Nat.zero_mul, Nat.add_zero] at c0 c1 c2
  exact ⟨off, cap, hlt, hne, h0.1, h2, h3, d0, d1, d2, c0, c1, c2, fun k => hb.frozen k⟩

theorem ret_agg3 {v0 v1 v2 u0 u1 u2 : Value} (h0 : v0 = u0) (h1 : v1 = u1) (h2 : v2 = u2) : Ending.returned (.agg #[v0, v1, v2]) = .returned (.agg #[u0, u1, u2]) := by rw [h0, h1, h2]

set_option maxRecDepth 100000 in
set_option maxHeartbeats 1000000 in
theorem t_now (w : World) (b tb : Nat) (T : TypeId) (rest : List Value) (s : Rs) (h : Tk w b tb T rest s) :
    Calls Tryz.prog 78 #[.pointer (some ⟨b, 0, none⟩)] w fun e w' => e = .returned (.agg #[.int .i64 s.now.kind, .string (str s.now.text), .int .i64 s.now.pos]) ∧ Below w.heap.size w w' := by
  obtain ⟨off, cap, hlt, hne, h0, h2, h3, d0, d1, d2, c0, c1, c2, hf⟩ := h.cells
  have hbl := h.lt
  generalize s.now = t at *
  generalize s.ts.length = n at *
  have hn0 : (0 : Int) < (n : Int) := by omega
  clear d1 d2 hf h
  go_enter Tryz.func78, Tryz.ntmps78
  go_wp2
  refine bodyPost_ret (results_cell1' rfl rfl (load_tok (cell_new3 _ _ _ _ _).1 (cell_new3 _ _ _ _ _).2.1 (cell_new3 _ _ _ _ _).2.2)) rfl ?_
  exact ⟨rfl, by go_grown⟩

theorem Tk.set1 {w : World} {b tb : Nat} {T : TypeId} {rest : List Value} {s : Rs} (h : Tk w b tb T rest s) (k : Int) : Tk (w.setCell ⟨b, 1, none⟩ (.int .i64 k)) b tb T rest ⟨s.ts, k, s.pl⟩ := by
  obtain ⟨h0, off, cap, hb, hne, ht⟩ := h
  refine ⟨h0, off, cap, ?_, hne, ht.grown (grown_set _ _ _ _) (fun x hx => by cases hx; exact hne)⟩
  have := hb.set 1 (.int .i64 k)
  simpa only [List.setIfInBounds_toArray, List.set_cons_zero, List.set_cons_succ] using this
theorem Tk.set2 {w : World} {b tb : Nat} {T : TypeId} {rest : List Value} {s : Rs} (h : Tk w b tb T rest s) (k : Int) : Tk (w.setCell ⟨b, 2, none⟩ (.int .i64 k)) b tb T rest ⟨s.ts, s.e, k⟩ := by
  obtain ⟨h0, off, cap, hb, hne, ht⟩ := h
  refine ⟨h0, off, cap, ?_, hne, ht.grown (grown_set _ _ _ _) (fun x hx => by cases hx; exact hne)⟩
  have := hb.set 2 (.int .i64 k)
  simpa only [List.setIfInBounds_toArray, List.set_cons_zero, List.set_cons_succ] using this
theorem ToksR.tail {w : World} {tb off cap : Nat} {l : List Tok} (h : ToksR w (.slice (some ⟨tb, off, none⟩) l.length cap) l) (k : Nat) (hk : k < l.length) : ToksR w (.slice (some ⟨tb, off + k * 3, none⟩) (l.length - k) (cap - k)) (l.drop k) := by
  obtain ⟨a', cap', e, h2, h3, h4, h5⟩ := h
  injection e with e1 e2 e3
  subst e1 e3
  refine ⟨_, _, by rw [List.length_drop], by rw [List.length_drop]; omega, by omega, by rw [List.length_drop]; omega, ?_⟩
  rcases h5 with h5 | ⟨b', off', e, hlt, hc⟩
  · have := tokCells_length l; rw [h5] at this; simp at this; omega
  · obtain ⟨rfl, rfl⟩ : tb = b' ∧ off = off' := by simpa using e
    refine .inr ⟨tb, _, rfl, hlt, fun i hi => ?_⟩
    have e1 : tokCells l = tokCells (l.take k) ++ tokCells (l.drop k) := by unfold tokCells; rw [← List.flatMap_append, List.take_append_drop]
    have e2 := tokCells_length (l.take k)
    have e3 := tokCells_length l
    have e4 := tokCells_length (l.drop k)
    rw [List.length_take, Nat.min_eq_left (by omega)] at e2
    rw [List.length_drop] at e4
    rw [Nat.add_assoc, hc (k * 3 + i) (by omega), e1, List.getElem?_append_right (by omega), e2]
    congr 1
    omega
theorem Tk.set0 {w : World} {b tb : Nat} {T : TypeId} {rest : List Value} {s : Rs} {off cap : Nat} (h : Tk w b tb T rest s) (hc : w.cell? ⟨b, 0, none⟩ = some (.slice (some ⟨tb, off, none⟩) s.ts.length cap)) (k : Nat) (hk : TsOk (s.ts.drop k)) :
    Tk (w.setCell ⟨b, 0, none⟩ (.slice (some ⟨tb, off + k * 3, none⟩) (s.ts.length - k) (cap - k))) b tb T rest ⟨s.ts.drop k, s.e, s.pl⟩ := by
  obtain ⟨h0, off', cap', hb, hne, ht⟩ := h
  have d0 := hb.cell 0
  simp only [List.getElem?_toArray, List.getElem?_cons_zero] at d0
  rw [hc] at d0
  injection d0 with d0
  injection d0 with d0 _ d1
  obtain rfl : off = off' := by simpa using d0
  subst d1
  have hkl : k < s.ts.length := by have := hk.1; rw [List.length_drop] at this; omega
  have hb2 := hb.set 0 (.slice (some ⟨tb, off + k * 3, none⟩) (s.ts.length - k) (cap - k))
  simp only [List.setIfInBounds_toArray, List.set_cons_zero, List.set_cons_succ] at hb2
  have ht2 := (ht.tail k hkl).grown (grown_set w b 0 (.slice (some ⟨tb, off + k * 3, none⟩) (s.ts.length - k) (cap - k))) (fun x hx => by cases hx; exact hne)
  exact ⟨hk, off + k * 3, cap - k, by rw [List.length_drop]; exact hb2, hne, by rw [List.length_drop]; exact ht2⟩

set_option maxRecDepth 100000 in
set_option maxHeartbeats 1000000 in
theorem t_fail (w : World) (b tb : Nat) (T : TypeId) (rest : List Value) (s : Rs) (h : Tk w b tb T rest s) (k p : Int) :
    Calls Tryz.prog 79 #[.pointer (some ⟨b, 0, none⟩), .int .i64 k, .int .i64 p] w fun e w' => e = .returned (.tuple #[]) ∧ Tk w' b tb T rest (s.fail k p) ∧ w.grownBy w' (some b) := by
  obtain ⟨off, cap, hlt, hne, h0, h2, h3, d0, d1, d2, c0, c1, c2, hf⟩ := h.cells
  have hbl := h.lt
  have f1 := hf 1
  have f2 := hf 2
  have HT := hid h
  by_cases he : s.e = 0
  · have HR : Hid (Tk ((w.setCell ⟨b, 1, none⟩ (.int .i64 k)).setCell ⟨b, 2, none⟩ (.int .i64 p)) b tb T rest (s.fail k p)) := by
      have := (h.set1 k).set2 p
      unfold Rs.fail
      rw [if_pos he]
      exact this
    rw [he] at d1
    clear h0 h2 h3 d0 c0 c1 c2 hf h he
    go_enter Tryz.func79, Tryz.ntmps79
    go_wp2
    go_end0
    exact ⟨rfl, HR.out, grown_trans (grown_set _ _ _ _) (grown_set _ _ _ _)⟩
  · have HR : Hid (Tk w b tb T rest (s.fail k p)) := by
      unfold Rs.fail
      rw [if_neg he]
      exact h
    have he1 : (s.e == 0) = false := by simpa using he
    generalize s.e = z at *
    clear h0 h2 h3 d0 c0 c1 c2 hf h he
    go_enter Tryz.func79, Tryz.ntmps79
    go_wp2
    go_end0
    exact ⟨rfl, HR.out, World.grownBy.refl _ _⟩

set_option maxRecDepth 100000 in
set_option maxHeartbeats 1000000 in
theorem t_skip (w : World) (b tb : Nat) (T : TypeId) (rest : List Value) (s : Rs) (h : Tk w b tb T rest s) (h3 : s.now.kind ≠ 3) :
    Calls Tryz.prog 80 #[.pointer (some ⟨b, 0, none⟩)] w fun e w' => e = .returned (.tuple #[]) ∧ Tk w' b tb T rest s.skip ∧ w.grownBy w' (some b) := by
  have hok := h.1
  have h2l := hok.two h3
  have hdr := hok.drop h3
  obtain ⟨off, cap, hlt, hne, h0, h2, h3', d0, d1, d2, c0, c1, c2, hf⟩ := h.cells
  have hbl := h.lt
  have f0 := hf 0
  have HR := hid (h.set0 d0 1 hdr)
  unfold Rs.skip
  generalize s.ts.length = n at *
  have hc1 : ¬ cap = 1 := by omega
  have hn1 : (1 : Int) ≤ (n : Int) := by omega
  have hn2 : 1 ≤ n := by omega
  have hnc : (n : Int) ≤ (cap : Int) := by omega
  rw [Nat.one_mul] at HR
  clear h0 d1 d2 c0 c1 c2 hf h hok h3 hdr
  go_enter Tryz.func80, Tryz.ntmps80
  go_wp2
  go_end0
  exact ⟨rfl, HR.out, grown_set _ _ _ _⟩

theorem tok_kind (a : Int) (t : ByteArray) (p : Int) (w : World) : (Instr.field 134 (.agg #[.int .i64 a, .string t, .int .i64 p]) 0).run Tryz.prog w = .ok (.int .i64 a) w := by kernel_rfl
theorem tok_text (a : Int) (t : ByteArray) (p : Int) (w : World) : (Instr.field 134 (.agg #[.int .i64 a, .string t, .int .i64 p]) 1).run Tryz.prog w = .ok (.string t) w := by kernel_rfl
theorem tok_pos (a : Int) (t : ByteArray) (p : Int) (w : World) : (Instr.field 134 (.agg #[.int .i64 a, .string t, .int .i64 p]) 2).run Tryz.prog w = .ok (.int .i64 p) w := by kernel_rfl
theorem str_eql (a b : List UInt8) : ((str a).toList == (str b).toList) = decide (a = b) := by
  rw [ByteArray.toList_eq, ByteArray.toList_eq, str_data, str_data]
  by_cases h : a = b <;> simp [h]

set_option maxRecDepth 100000 in
set_option maxHeartbeats 1000000 in
theorem t_more (w : World) (b tb : Nat) (T : TypeId) (rest : List Value) (s : Rs) (h : Tk w b tb T rest s) :
    Calls Tryz.prog 81 #[.pointer (some ⟨b, 0, none⟩)] w fun e w' => e = .returned (.bool s.more) ∧ Below w.heap.size w w' := by
  obtain ⟨off, cap, hlt, hne, h0, h2, h3, d0, d1, d2, c0, c1, c2, hf⟩ := h.cells
  have hbl := h.lt
  have HN := hid (t_now w b tb T rest s h)
  clear d0 d2 c0 c1 c2 hf h h0 h2 h3
  by_cases he : s.e = 0
  · rw [he] at d1
    by_cases hk : s.now.kind = 3
    · have hz := hid (show s.more = false by unfold Rs.more; rw [hk]; simp)
      have HN2 : Hid (Calls Tryz.prog 78 #[.pointer (some ⟨b, 0, none⟩)] w fun e w' => e = .returned (.agg #[.int .i64 3, .string (str s.now.text), .int .i64 s.now.pos]) ∧ Below w.heap.size w w') := by have := HN.out; rw [hk] at this; exact this
      clear HN hk he
      have q0 := tok_kind
      have q1 := tok_text
      have q2 := tok_pos
      go_enter Tryz.func81, Tryz.ntmps81
      go_wp2_with fail
      refine HN2.out.mono ?_
      rintro e w1 ⟨rfl, hB⟩
      dsimp only
      go_wp2_with fail
      go_ret
      exact ⟨ret_bool hz.out.symm, hB⟩
    · have hz := hid (show s.more = true by unfold Rs.more; simp [he, hk])
      have hkb : (s.now.kind != 3) = true := by simpa using hk
      generalize s.now.kind = kk at *
      clear hk he
      have q0 := tok_kind
      have q1 := tok_text
      have q2 := tok_pos
      go_enter Tryz.func81, Tryz.ntmps81
      go_wp2_with fail
      refine HN.out.mono ?_
      rintro e w1 ⟨rfl, hB⟩
      dsimp only
      go_wp2_with fail
      go_ret
      exact ⟨ret_bool hz.out.symm, hB⟩
  · have hz := hid (show s.more = false by unfold Rs.more; simp [he])
    have he1 : (s.e == 0) = false := by simpa using he
    generalize s.e = z at *
    clear HN he
    have q0 := tok_kind
    have q1 := tok_text
    have q2 := tok_pos
    go_enter Tryz.func81, Tryz.ntmps81
    go_wp2_with fail
    go_ret
    exact ⟨ret_bool hz.out.symm, Below.refl _ _⟩

set_option maxRecDepth 100000 in
set_option maxHeartbeats 1000000 in
theorem t_is (w : World) (b tb : Nat) (T : TypeId) (rest : List Value) (s : Rs) (h : Tk w b tb T rest s) (t : List UInt8) :
    Calls Tryz.prog 113 #[.pointer (some ⟨b, 0, none⟩), .string (str t)] w fun e w' => e = .returned (.bool (s.is t)) ∧ Below w.heap.size w w' := by
  obtain ⟨off, cap, hlt, hne, h0, h2, h3, d0, d1, d2, c0, c1, c2, hf⟩ := h.cells
  have hbl := h.lt
  have HN := hid (t_now w b tb T rest s h)
  have HN' := hid (fun (w1 : World) (hB : Below w.heap.size w w1) => t_now w1 b tb T rest s (h.below hB))
  clear d0 d2 c0 c1 c2 hf h h0 h2 h3
  by_cases he : s.e = 0
  · rw [he] at d1
    by_cases hk : s.now.kind = 3
    · have hz := hid (show s.is t = false by unfold Rs.is Rs.more; rw [hk]; simp)
      have HN2 : Hid (Calls Tryz.prog 78 #[.pointer (some ⟨b, 0, none⟩)] w fun e w' => e = .returned (.agg #[.int .i64 3, .string (str s.now.text), .int .i64 s.now.pos]) ∧ Below w.heap.size w w') := by have := HN.out; rw [hk] at this; exact this
      clear HN HN' hk he
      have q0 := tok_kind
      have q1 := tok_text
      have q2 := tok_pos
      go_enter Tryz.func113, Tryz.ntmps113
      go_wp2_with fail
      refine HN2.out.mono ?_
      rintro e w1 ⟨rfl, hB⟩
      dsimp only
      go_wp2_with fail
      go_ret
      exact ⟨ret_bool hz.out.symm, hB⟩
    · have hz := hid (show s.is t = decide (s.now.text = t) by unfold Rs.is Rs.more; simp [he, hk])
      have hkb : (s.now.kind != 3) = true := by simpa using hk
      have hse := str_eql s.now.text t
      have HSE := hid hse
      generalize s.now.kind = kk at *
      clear hk he hse
      have q0 := tok_kind
      have q1 := tok_text
      have q2 := tok_pos
      go_enter Tryz.func113, Tryz.ntmps113
      go_wp2_with fail
      refine HN.out.mono ?_
      rintro e w1 ⟨rfl, hB⟩
      have HB := hid hB
      clear hB
      dsimp only
      go_wp2_with fail
      refine (HN'.out w1 HB.out).mono ?_
      rintro e w2 ⟨rfl, hB2⟩
      have hse := HSE.out
      dsimp only
      go_wp2_with fail
      go_ret
      exact ⟨ret_bool hz.out.symm, up HB.out hB2⟩
  · have hz := hid (show s.is t = false by unfold Rs.is Rs.more; simp [he])
    have he1 : (s.e == 0) = false := by simpa using he
    generalize s.e = z at *
    clear HN he
    have q0 := tok_kind
    have q1 := tok_text
    have q2 := tok_pos
    go_enter Tryz.func113, Tryz.ntmps113
    go_wp2_with fail
    go_ret
    exact ⟨ret_bool hz.out.symm, Below.refl _ _⟩

theorem Rs.is_kind {s : Rs} {t : List UInt8} (h : s.is t = true) : s.now.kind ≠ 3 ∧ s.e = 0 ∧ s.now.text = t := by
  unfold Rs.is Rs.more at h
  simp at h
  exact ⟨h.1.2, h.1.1, h.2⟩

set_option maxRecDepth 100000 in
set_option maxHeartbeats 1000000 in
theorem t_need (w : World) (b tb : Nat) (T : TypeId) (rest : List Value) (s : Rs) (h : Tk w b tb T rest s) (t : List UInt8) :
    Calls Tryz.prog 98 #[.pointer (some ⟨b, 0, none⟩), .string (str t)] w fun e w' => e = .returned (.tuple #[]) ∧ Tk w' b tb T rest (s.need t) ∧ w.grownBy w' (some b) := by
  have HI := hid (t_is w b tb T rest s h t)
  have hT := hid h
  have hbl := h.lt
  unfold Rs.need
  cases hi : s.is t with
  | true =>
    have HK := hid (Rs.is_kind hi).1
    rw [hi] at HI
    clear hi h
    rw [if_pos rfl]
    have q0 := tok_kind
    have q1 := tok_text
    have q2 := tok_pos
    go_enter Tryz.func98, Tryz.ntmps98
    go_wp2_with fail
    refine HI.out.mono ?_
    rintro e w1 ⟨rfl, hB⟩
    have HB := hid hB
    clear hB
    dsimp only
    go_wp2_with fail
    refine (t_skip w1 b tb T rest s (hT.out.below HB.out) HK.out).mono ?_
    rintro e w2 ⟨rfl, hT2, hg⟩
    dsimp only
    go_wp2_with fail
    go_end0
    exact ⟨rfl, hT2, grown_trans (grown_of HB.out _) hg⟩
  | false =>
    rw [hi] at HI
    clear hi h
    rw [if_neg (by decide)]
    have q0 := tok_kind
    have q1 := tok_text
    have q2 := tok_pos
    go_enter Tryz.func98, Tryz.ntmps98
    go_wp2_with fail
    refine HI.out.mono ?_
    rintro e w1 ⟨rfl, hB⟩
    have HB := hid hB
    clear hB
    dsimp only
    go_wp2_with fail
    refine (t_now w1 b tb T rest s (hT.out.below HB.out)).mono ?_
    rintro e w2 ⟨rfl, hB2⟩
    have HB2 := hid (up HB.out hB2)
    clear hB2
    dsimp only
    go_wp2_with fail
    refine (t_fail w2 b tb T rest s (hT.out.below HB2.out) 4 s.now.pos).mono ?_
    rintro e w3 ⟨rfl, hT3, hg⟩
    dsimp only
    go_wp2_with fail
    refine bodyPost_ret (results_none rfl _ _ _) rfl ?_
    exact ⟨rfl, hT3, grown_trans (grown_of HB2.out _) hg⟩

end Go.Proofs.YtemmepgfngkgmaaGreatDoor
