/-
  The lexer's classes of bytes: Word, natural, number, sign: each returns what the plain text's function says, for every text.
-/
import Derived.Test.YtemmepgfngkgmaaGreatDoorKL
import Derived.Test.YtemmepgfngkgmaaGreatDoorReg
import Derived.WalkSpells
import Derived.WalkLawsBesides
import Derived.ChangeMaps5
namespace Go.Proofs.YtemmepgfngkgmaaGreatDoor
open Go.RowKit

theorem c_Trim (l cs : List UInt8) (w : World) (hl : l.length ≤ 9223372036854775807) (hcs : cs.length < 4294967281) (ha : cs.all (fun b => decide (b.toNat < 128)) = true) :
    Calls Tryz.prog 116 #[.string (str l), .string (str cs)] w fun e w' => e = .returned (.string (str (Lib.trimS l cs))) ∧ Below w.heap.size w w' :=
  Any.strings_Trim_laid lay160 (by kernel_rfl) (str l) (str cs) w (by rw [str_size]; exact hl) (by rw [str_size]; exact hcs) (ascii_of_all ha)
theorem c_TrimLeft (l cs : List UInt8) (w : World) (hcs : cs.length < 4294967281) (ha : cs.all (fun b => decide (b.toNat < 128)) = true) :
    Calls Tryz.prog 173 #[.string (str l), .string (str cs)] w fun e w' => e = .returned (.string (str (Lib.trimLeftS l cs))) ∧ Below w.heap.size w w' :=
  Any.strings_TrimLeft_laid lay161 (by kernel_rfl) (str l) (str cs) w (by rw [str_size]; exact hcs) (ascii_of_all ha)

theorem dropWhile_nil (p : UInt8 → Bool) (l : List UInt8) : l.dropWhile p = [] ↔ l.all p = true := by
  induction l with
  | nil => simp
  | cons a l ih => by_cases h : p a = true <;> simp [h] ; simpa using ih
theorem trimS_nil (l cs : List UInt8) : Lib.trimS l cs = [] ↔ l.all (cs.contains ·) = true := by
  unfold Lib.trimS Lib.trimLeftS Lib.trimRightS
  rw [dropWhile_nil, List.all_reverse]
  constructor
  · intro h
    have := dropWhile_nil (cs.contains ·) l.reverse
    rw [List.all_reverse] at this
    rw [← this]
    cases hd : l.reverse.dropWhile (cs.contains ·) with
    | nil => rfl
    | cons a r =>
      rw [hd] at h
      have := List.head_dropWhile_not (p := (cs.contains ·)) (l := l.reverse) (by rw [hd]; simp)
      simp only [hd, List.head_cons] at this
      simp [List.all_cons] at h
      simp [h.1] at this
  · intro h
    have := (dropWhile_nil (cs.contains ·) l.reverse).2 (by rw [List.all_reverse]; exact h)
    rw [this]; rfl

theorem isE (l : List UInt8) : (str l).toList.isEmpty = l.isEmpty := by rw [ByteArray.toList_eq]; rfl

theorem isE_str (l : List UInt8) {b : Bool} (h : l.isEmpty = b) : (str l).toList.isEmpty = b := (isE l).trans h
theorem str_at (l : List UInt8) (i : Nat) (h : i < (str l).size) : (str l)[i] = l[i]'(by rw [← str_size]; exact h) := rfl
theorem trim_let (l : List UInt8) : (Lib.trimS l letters).isEmpty = l.all isLet := by
  have e : l.all (letters.contains ·) = l.all isLet := by congr 1; funext c; exact let_has c
  rw [Bool.eq_iff_iff, List.isEmpty_iff, trimS_nil, e]
theorem trim_dig (l : List UInt8) : (Lib.trimS l figures).isEmpty = l.all isDig := by
  have e : l.all (figures.contains ·) = l.all isDig := by congr 1; funext c; exact dig_has c
  rw [Bool.eq_iff_iff, List.isEmpty_iff, trimS_nil, e]

set_option maxHeartbeats 2000000 in
/-- lexer.Word. -/
theorem p_Word (l : List UInt8) (w : World) (hl : l.length ≤ 9223372036854775807) :
    Calls Tryz.prog 74 #[.string (str l)] w fun e w' => e = .returned (.int .i64 (wordErr l)) ∧ Below w.heap.size w w' := by
  cases h0 : l.isEmpty with
  | true =>
    have e0 := isE_str l h0
    have hz : wordErr l = 3 := by simp [wordErr, h0]
    rw [hz]
    go_enter Tryz.func74, Tryz.ntmps74
    go_wp2_with fail
    go_ret
    exact ⟨rfl, Below.refl _ _⟩
  | false =>
    have e0 := isE_str l h0
    cases h1 : l.all isLet with
    | false =>
      have e1 := isE_str _ ((trim_let l).trans h1)
      have hz : wordErr l = 3 := by simp [wordErr, h1]
      rw [hz]
      go_enter Tryz.func74, Tryz.ntmps74
      go_wp2_with fail
      refine (c_Trim l letters _ hl (by decide) (by decide)).mono ?_
      rintro e w1 ⟨rfl, hB⟩
      go_simp
      go_wp2_with fail
      go_ret
      exact ⟨rfl, hB⟩
    | true =>
      have e1 := isE_str _ ((trim_let l).trans h1)
      have hz : wordErr l = if 24 < (str l).size then 19 else 0 := by simp [wordErr, h0, h1, str_size]
      go_enter Tryz.func74, Tryz.ntmps74
      go_wp2_with fail
      refine (c_Trim l letters _ hl (by decide) (by decide)).mono ?_
      rintro e w1 ⟨rfl, hB⟩
      go_simp
      go_wp2_with fail
      · go_ret
        exact ⟨ret_int (by rw [hz, if_pos (by omega)]), hB⟩
      · go_ret
        exact ⟨ret_int (by rw [hz, if_neg (by omega)]), hB⟩

set_option maxHeartbeats 2000000 in
/-- lexer.natural. -/
theorem p_nat (l : List UInt8) (w : World) (hl : l.length ≤ 9223372036854775807) :
    Calls Tryz.prog 145 #[.string (str l)] w fun e w' => e = .returned (.bool (natB l)) ∧ Below w.heap.size w w' := by
  cases h0 : l.isEmpty with
  | true =>
    have e0 := isE_str l h0
    have hz : natB l = false := by simp [natB, h0]
    rw [hz]
    go_enter Tryz.func145, Tryz.ntmps145
    go_wp2_with fail
    go_ret
    exact ⟨rfl, Below.refl _ _⟩
  | false =>
    have e0 := isE_str l h0
    cases h1 : l.all isDig with
    | false =>
      have e1 := isE_str _ ((trim_dig l).trans h1)
      have hz : natB l = false := by simp [natB, h1]
      rw [hz]
      go_enter Tryz.func145, Tryz.ntmps145
      go_wp2_with fail
      refine (c_Trim l figures _ hl (by decide) (by decide)).mono ?_
      rintro e w1 ⟨rfl, hB⟩
      go_simp
      go_wp2_with fail
      go_ret
      exact ⟨rfl, hB⟩
    | true =>
      have e1 := isE_str _ ((trim_dig l).trans h1)
      have hs0 : 0 < (str l).size := by rw [str_size]; cases l with
        | nil => simp at h0
        | cons _ _ => simp
      go_enter Tryz.func145, Tryz.ntmps145
      go_wp2_with fail
      refine (c_Trim l figures _ hl (by decide) (by decide)).mono ?_
      rintro e w1 ⟨rfl, hB⟩
      go_simp
      go_wp2_with fail
      · go_ret
        rename_i h48
        rw [str_at] at h48
        refine ⟨ret_bool ?_, hB⟩
        rw [str_size]
        cases l with
        | nil => simp at h0
        | cons c r =>
          have hc : c = 48 := UInt8.toNat_inj.1 (by have h : (c.toNat : Int) = 48 := h48; exact Int.ofNat.inj h)
          have hb : (List.all (c :: r) isDig) = true := h1
          unfold natB
          rw [hb, List.head?_cons, hc]
          rw [Bool.eq_iff_iff]; simp; cases r <;> simp; omega
      · go_ret
        rename_i h48
        rw [str_at] at h48
        refine ⟨ret_bool ?_, hB⟩
        cases l with
        | nil => simp at h0
        | cons c r =>
          have hc : c ≠ 48 := by rintro rfl; exact h48 rfl
          have hb : (List.all (c :: r) isDig) = true := h1
          simp only [natB, List.isEmpty_cons, hb, List.head?_cons, Option.some.injEq, ne_eq, hc]; rfl

set_option maxHeartbeats 2000000 in
/-- lexer.number. -/
theorem p_number (l : List UInt8) (w : World) (hl : l.length ≤ 9223372036854775807) :
    Calls Tryz.prog 170 #[.string (str l)] w fun e w' => e = .returned (.int .i64 (numErr l)) ∧ Below w.heap.size w w' := by
  have nat2 : ∀ b, natB l = b → ∀ w1, Below w.heap.size w w1 → Calls Tryz.prog 145 #[.string (str l)] w1 fun e w' => e = .returned (.bool b) ∧ Below w.heap.size w w' := fun b hb w1 hB =>
    (p_nat l w1 hl).mono fun e w' ⟨h1, h2⟩ => ⟨by rw [h1, hb], hB.trans (h2.mono hB.size)⟩
  cases h0 : l.isEmpty with
  | true =>
    have e0 := isE_str l h0
    have hz : numErr l = 3 := by simp [numErr, h0]
    have hn : natB l = false := by simp [natB, h0]
    rw [hz]
    go_enter Tryz.func170, Tryz.ntmps170
    go_wp2_with fail
    refine (nat2 _ hn _ (Below.refl _ _)).mono ?_
    rintro e w1 ⟨rfl, hB⟩
    go_simp; go_wp2_with fail; go_ret; exact ⟨rfl, hB⟩
  | false =>
    have e0 := isE_str l h0
    cases h1 : l.all isDig with
    | false =>
      have e1 := isE_str _ ((trim_dig l).trans h1)
      have hz : numErr l = 3 := by simp [numErr, h1]
      have hn : natB l = false := by simp [natB, h1]
      rw [hz]
      go_enter Tryz.func170, Tryz.ntmps170
      go_wp2_with fail
      refine (c_Trim l figures _ hl (by decide) (by decide)).mono ?_
      rintro e w1 ⟨rfl, hB⟩
      go_simp
      go_wp2_with fail
      refine (nat2 _ hn _ hB).mono ?_
      rintro e w1 ⟨rfl, hB⟩
      go_simp; go_wp2_with fail; go_ret; exact ⟨rfl, hB⟩
    | true =>
      have e1 := isE_str _ ((trim_dig l).trans h1)
      have hz : numErr l = if 1024 < l.length then 11 else if natB l then 0 else 3 := by simp [numErr, h0, h1]
      by_cases hlen : 1024 < l.length
      · have hs : (1024 : Int) < ((str l).size : Int) := by rw [str_size]; omega
        rw [hz, if_pos hlen]
        go_enter Tryz.func170, Tryz.ntmps170
        go_wp2_with fail
        refine (c_Trim l figures _ hl (by decide) (by decide)).mono ?_
        rintro e w1 ⟨rfl, hB⟩
        go_simp
        go_wp2_with fail
        go_ret
        exact ⟨rfl, hB⟩
      · have hs : ¬ (1024 : Int) < ((str l).size : Int) := by rw [str_size]; omega
        rw [if_neg hlen] at hz
        cases hn : natB l <;> rw [hn] at hz <;> rw [hz]
        all_goals
          go_enter Tryz.func170, Tryz.ntmps170
          go_wp2_with fail
          refine (c_Trim l figures _ hl (by decide) (by decide)).mono ?_
          rintro e w1 ⟨rfl, hB⟩
          go_simp
          go_wp2_with fail
          refine (nat2 _ hn _ hB).mono ?_
          rintro e w1 ⟨rfl, hB⟩
          go_simp; go_wp2_with fail; go_ret; exact ⟨rfl, hB⟩

theorem idx_ge (l : List UInt8) (c : UInt8) : decide (0 ≤ Lib.indexByte l c) = l.contains c := by
  have := Lib.indexByte_ge l c
  rw [Bool.eq_iff_iff, decide_eq_true_eq, List.contains_iff_mem]
  constructor
  · intro h
    obtain ⟨o, ho⟩ : ∃ o : Nat, Lib.indexByte l c = o := ⟨(Lib.indexByte l c).toNat, by omega⟩
    exact List.mem_of_getElem? (Lib.indexByte_some ho).1
  · intro h
    rcases Int.lt_or_le (Lib.indexByte l c) 0 with h' | h'
    · obtain ⟨k, hk, he⟩ := List.getElem_of_mem h
      exact absurd (by rw [List.getElem?_eq_getElem hk, he]) (Lib.indexByte_none (by omega : Lib.indexByte l c = -1) k)
    · exact h'

set_option maxHeartbeats 2000000 in
/-- lexer.sign. -/
theorem p_sign (l : List UInt8) (w : World) :
    Calls Tryz.prog 171 #[.string (str l)] w fun e w' => e = .returned (.int .i64 (sgnErr l)) ∧ Below w.heap.size w w' := by
  match l with
  | [] =>
    go_enter Tryz.func171, Tryz.ntmps171
    go_wp2_with fail
    go_ret
    exact ⟨rfl, Below.refl _ _⟩
  | c :: d :: r =>
    have hs : (((str (c :: d :: r)).size : Int) != 1) = true := by rw [str_size]; simp; omega
    go_enter Tryz.func171, Tryz.ntmps171
    go_wp2_with fail
    go_ret
    exact ⟨rfl, Below.refl _ _⟩
  | [c] =>
    have hm : ∀ w : World, Calls Tryz.prog 195 #[.string (str marks), .string (str [c])] w fun e w' => e = .returned (.bool (isSgn c)) ∧ w' = w := fun w =>
      (Any.strings_Contains_one lay144 (str marks) c w).mono fun e w' ⟨h1, h2⟩ => ⟨by rw [h1]; exact ret_bool (idx_ge _ _), h2⟩
    cases hc : isSgn c <;> rw [show sgnErr [c] = if isSgn c then 0 else 3 from rfl, hc]
    all_goals
      rw [hc] at hm
      go_enter Tryz.func171, Tryz.ntmps171
      go_wp2_with fail
      refine (hm _).mono ?_
      rintro e w1 ⟨rfl, rfl⟩
      go_simp; go_wp2_with fail; go_ret; exact ⟨rfl, Below.refl _ _⟩

end Go.Proofs.YtemmepgfngkgmaaGreatDoor
