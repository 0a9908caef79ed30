/-
  What the lexer's texts compute, in plain lists: tokens, the errors of words, numbers and signs, the scan of a text, the normal text of tokens, the bracket that closes another one. No program in sight.
-/
import Derived.Test.YtemmepgfngkgmaaGreatDoorSpec2
namespace Go.Proofs.YtemmepgfngkgmaaGreatDoor
open Go.RowKit

def str (l : List UInt8) : ByteArray := ⟨l.toArray⟩
theorem str_list (s : ByteArray) : str s.data.toList = s := by cases s; rfl
theorem str_data (l : List UInt8) : (str l).data.toList = l := rfl
theorem str_size (l : List UInt8) : (str l).size = l.length := by simp [str, ByteArray.size]

structure Tok where
  kind : Int
  text : List UInt8
  pos : Int
deriving Inhabited, DecidableEq

def Tok.cells (x : Tok) : List Value := [.int .i64 x.kind, .string (str x.text), .int .i64 x.pos]

def isLet (c : UInt8) : Bool := decide (97 ≤ c.toNat) && decide (c.toNat ≤ 122)
def isDig (c : UInt8) : Bool := decide (48 ≤ c.toNat) && decide (c.toNat ≤ 57)
def letters : List UInt8 := [97, 98, 99, 100, 101, 102, 103, 104, 105, 106, 107, 108, 109, 110, 111, 112, 113, 114, 115, 116, 117, 118, 119, 120, 121, 122]
def figures : List UInt8 := [48, 49, 50, 51, 52, 53, 54, 55, 56, 57]
def marks : List UInt8 := [44, 59, 58, 40, 41, 123, 125, 91, 93, 61, 43, 45, 42, 47, 60, 62, 46]
def isSgn (c : UInt8) : Bool := marks.contains c

theorem byte_all (f : UInt8 → Bool) (h : (List.range 256).all (fun n => f (UInt8.ofNat n)) = true) (c : UInt8) : f c = true := by
  have := List.all_eq_true.1 h c.toNat (by simp [c.toNat_lt])
  simpa using this
theorem let_has (c : UInt8) : letters.contains c = isLet c := by
  have := byte_all (fun c => letters.contains c == isLet c) (by kernel_rfl) c
  exact eq_of_beq this
theorem dig_has (c : UInt8) : figures.contains c = isDig c := by
  have := byte_all (fun c => figures.contains c == isDig c) (by kernel_rfl) c
  exact eq_of_beq this
theorem let_dig (c : UInt8) : isLet c = true → isDig c = false := by
  unfold isLet isDig; simp only [Bool.and_eq_true, decide_eq_true_eq, Bool.and_eq_false_iff, decide_eq_false_iff_not]; omega
theorem sgn_not (c : UInt8) (h : isSgn c = true) : isLet c = false ∧ isDig c = false ∧ c ≠ 32 := by
  have := byte_all (fun c => !isSgn c || (!isLet c && !isDig c && c != 32)) (by kernel_rfl) c
  simpa [h, and_assoc] using this
theorem blank_not : isLet 32 = false ∧ isDig 32 = false ∧ isSgn 32 = false := by decide

def wordErr (l : List UInt8) : Int := if (l.isEmpty || !l.all isLet) = true then 3 else if 24 < l.length then 19 else 0
def natB (l : List UInt8) : Bool := !l.isEmpty && l.all isDig && (decide (l.head? ≠ some 48) || decide (l.length = 1))
def numErr (l : List UInt8) : Int := if (l.isEmpty || !l.all isDig) = true then 3 else if 1024 < l.length then 11 else if natB l = true then 0 else 3
def sgnErr (l : List UInt8) : Int := match l with | [c] => if isSgn c then 0 else 3 | _ => 3

/-- The kind of the token that begins with a byte, and its text, at the beginning of a text. -/
def kindOf (c : UInt8) : Int := if isLet c then 0 else if isDig c then 1 else if isSgn c then 2 else 4
def runOf (s : List UInt8) : List UInt8 := match s with
  | [] => []
  | c :: r => if isLet c then (c :: r).takeWhile isLet else if isDig c then (c :: r).takeWhile isDig else [c]
def tokErr (k : Int) (t : List UInt8) : Int := if k = 0 then wordErr t else if k = 1 then numErr t else if k = 2 then sgnErr t else 4

def scanG : Nat → List UInt8 → Nat → (Int × Int) ⊕ List Tok
  | 0, _, p => .inr [⟨3, [], p⟩]
  | _ + 1, [], p => .inr [⟨3, [], p⟩]
  | n + 1, c :: r, p =>
    if c = 32 then scanG n r (p + 1)
    else if tokErr (kindOf c) (runOf (c :: r)) ≠ 0 then .inl (p, tokErr (kindOf c) (runOf (c :: r)))
    else match scanG n ((c :: r).drop (runOf (c :: r)).length) (p + (runOf (c :: r)).length) with
      | .inl x => .inl x
      | .inr l => .inr (⟨kindOf c, runOf (c :: r), p⟩ :: l)

def scanR (s : List UInt8) : (Int × Int) ⊕ List Tok := if 4096 < s.length then .inl (0, 19) else scanG (s.length + 1) s 0

abbrev Scn := (Int × Int) ⊕ List Tok
def Scn.at' (z : Scn) : Int := match z with | .inl x => x.1 | .inr _ => 0
def Scn.no (z : Scn) : Int := match z with | .inl x => x.2 | .inr _ => 0
def Scn.toks (z : Scn) : List Tok := match z with | .inl _ => [] | .inr l => l
def Scn.pre (l : List Tok) (z : Scn) : Scn := match z with | .inl x => .inl x | .inr m => .inr (l ++ m)

theorem pre_nil (z : Scn) : Scn.pre [] z = z := by cases z <;> rfl
theorem pre_snoc (l : List Tok) (t : Tok) (z : Scn) : Scn.pre l (match z with | .inl x => .inl x | .inr m => .inr (t :: m)) = Scn.pre (l ++ [t]) z := by cases z <;> simp [Scn.pre]

theorem runOf_len (c : UInt8) (r : List UInt8) : 1 ≤ (runOf (c :: r)).length ∧ (runOf (c :: r)).length ≤ (c :: r).length := by
  have tw : ∀ (p : UInt8 → Bool) (l : List UInt8), (l.takeWhile p).length ≤ l.length := fun p l => by
    induction l with
    | nil => simp
    | cons a l ih => by_cases h : p a = true <;> simp [h] ; exact ih
  unfold runOf
  by_cases h1 : isLet c = true
  · simp only [h1, if_true]
    exact ⟨by simp [h1], tw _ _⟩
  · by_cases h2 : isDig c = true
    · simp only [h1, h2, if_true, Bool.false_eq_true, if_false]
      exact ⟨by simp [h2], tw _ _⟩
    · simp [h1, h2]
theorem runOf_pre (s : List UInt8) : s.take (runOf s).length = runOf s := by
  have tw : ∀ (p : UInt8 → Bool) (l : List UInt8), l.take (l.takeWhile p).length = l.takeWhile p := fun p l => by
    induction l with
    | nil => simp
    | cons a l ih => by_cases h : p a = true <;> simp [h] ; exact ih
  cases s with
  | nil => rfl
  | cons c r =>
    by_cases h1 : isLet c = true
    · simp only [runOf, h1, if_true]; exact tw _ _
    · by_cases h2 : isDig c = true
      · simp only [runOf, h1, h2, if_true, Bool.false_eq_true, if_false]; exact tw _ _
      · simp [runOf, h1, h2]

/-- The scan does not depend on the fuel. -/
theorem scan_fuel : ∀ (n m : Nat) (s : List UInt8) (p : Nat), s.length < n → s.length < m → scanG n s p = scanG m s p
  | 0, _, _, _, h, _ => by omega
  | _, 0, _, _, _, h => by omega
  | n + 1, m + 1, [], p, _, _ => rfl
  | n + 1, m + 1, c :: r, p, h1, h2 => by
    have hr := runOf_len c r
    have hl : ((c :: r).drop (runOf (c :: r)).length).length < n ∧ ((c :: r).drop (runOf (c :: r)).length).length < m := by
      rw [List.length_drop]; simp only [List.length_cons] at *; omega
    unfold scanG
    rw [scan_fuel n m r (p + 1) (by simp at h1; omega) (by simp at h2; omega), scan_fuel n m _ _ hl.1 hl.2]

def fuelS (s : List UInt8) (p : Nat) : Scn := scanG (s.length + 1) s p

theorem fuelS_end (p : Nat) : fuelS [] p = .inr [⟨3, [], p⟩] := rfl
theorem fuelS_blank (r : List UInt8) (p : Nat) : fuelS (32 :: r) p = fuelS r (p + 1) := rfl
theorem fuelS_err (c : UInt8) (r : List UInt8) (p : Nat) (h : c ≠ 32) (he : tokErr (kindOf c) (runOf (c :: r)) ≠ 0) : fuelS (c :: r) p = .inl (p, tokErr (kindOf c) (runOf (c :: r))) := by
  unfold fuelS scanG; rw [if_neg h, if_pos he]
theorem fuelS_tok (c : UInt8) (r : List UInt8) (p : Nat) (h : c ≠ 32) (he : tokErr (kindOf c) (runOf (c :: r)) = 0) :
    fuelS (c :: r) p = Scn.pre [⟨kindOf c, runOf (c :: r), p⟩] (fuelS ((c :: r).drop (runOf (c :: r)).length) (p + (runOf (c :: r)).length)) := by
  have hr := runOf_len c r
  have hx : scanG (c :: r).length ((c :: r).drop (runOf (c :: r)).length) (p + (runOf (c :: r)).length) = fuelS ((c :: r).drop (runOf (c :: r)).length) (p + (runOf (c :: r)).length) :=
    scan_fuel _ _ _ _ (by rw [List.length_drop]; simp only [List.length_cons] at *; omega) (by omega)
  unfold fuelS at hx
  conv => lhs; unfold fuelS scanG
  rw [if_neg h, if_neg (by simpa using he), hx]
  show (match fuelS _ _ with | .inl x => Sum.inl x | .inr l => .inr (_ :: l)) = _
  cases fuelS ((c :: r).drop (runOf (c :: r)).length) (p + (runOf (c :: r)).length) <;> rfl

/-! ## The normal text of tokens -/
def formErr (t : Tok) (last : Bool) : Int :=
  if t.kind = 3 then (if !last then 9 else if t.text = [] then 0 else 3)
  else if t.kind = 0 ∨ t.kind = 1 ∨ t.kind = 2 then (if tokErr t.kind t.text = 0 then 0 else 3) else 1
def formAt (l : List Tok) (i : Nat) : Int := formErr (l[i]?.getD default) (decide (i + 1 = l.length))
def plainT (t : Tok) : Bool := decide (t.kind = 0) || decide (t.kind = 1)
def joined : Bool → List Tok → List UInt8
  | _, [] => []
  | b, t :: l => (if b && plainT t then [32] else []) ++ t.text ++ joined (plainT t) l
def joinR (l : List Tok) : Int × List UInt8 :=
  if 4097 < l.length then (5, []) else if firstNZ (formAt l) 0 l.length ≠ 0 then (firstNZ (formAt l) 0 l.length, [])
  else if (l.getLast?.map Tok.kind) ≠ some 3 then (9, []) else if 4096 < (joined false l).length then (19, []) else (0, joined false l)

/-! ## Brackets -/
def opens (t : Tok) : Nat := if t.kind = 2 then (if t.text = [40] then 1 else if t.text = [91] then 2 else if t.text = [123] then 3 else 0) else 0
def closes (t : Tok) : Nat := if t.kind = 2 then (if t.text = [41] then 1 else if t.text = [93] then 2 else if t.text = [125] then 3 else 0) else 0
/-- From an index on, with the open brackets, the last one first. -/
def closeG : List Tok → Nat → List Nat → Int × Int
  | [], _, _ => (0, 3)
  | t :: l, i, o =>
    if opens t ≠ 0 then closeG l (i + 1) (opens t :: o)
    else if closes t ≠ 0 then (match o with
      | [] => (0, 3)
      | k :: o' => if k ≠ closes t then (0, 3) else if o' = [] then ((i : Int), 0) else closeG l (i + 1) o')
    else closeG l (i + 1) o
def closeR (l : List Tok) (at' : Int) : Int × Int :=
  if at' < 0 ∨ (l.length : Int) ≤ at' then (0, 2) else if opens (l[at'.toNat]?.getD default) = 0 then (0, 4) else closeG (l.drop at'.toNat) at'.toNat []

/-! ## Tokens in memory -/
def tokCells (l : List Tok) : List Value := l.flatMap Tok.cells
theorem tokCells_length (l : List Tok) : (tokCells l).length = l.length * 3 := by
  induction l with
  | nil => rfl
  | cons a l ih => simp only [tokCells, List.flatMap_cons, List.length_append, List.length_cons] at *; rw [ih]; simp [Tok.cells]; omega
theorem tokCells_snoc (l : List Tok) (t : Tok) : tokCells (l ++ [t]) = tokCells l ++ t.cells := by simp [tokCells]
theorem tokCells_get (l : List Tok) : ∀ k, k < l.length → ∀ j, j < 3 → (tokCells l)[k * 3 + j]? = (l[k]?.getD default).cells[j]? := by
  induction l with
  | nil => intro k hk; simp at hk
  | cons a l ih =>
    intro k hk j hj
    have e : tokCells (a :: l) = a.cells ++ tokCells l := by simp [tokCells]
    rw [e]
    cases k with
    | zero => rw [List.getElem?_append_left (by simp [Tok.cells]; omega)]; simp
    | succ k =>
      rw [List.getElem?_append_right (by simp [Tok.cells]; omega)]
      have := ih k (by simpa using hk) j hj
      have e2 : (k + 1) * 3 + j - a.cells.length = k * 3 + j := by simp [Tok.cells]; omega
      rw [e2, this]
      simp

/-- A list of tokens lies in memory. -/
def ToksR (w : World) (v : Value) (l : List Tok) : Prop :=
  ∃ a cap, v = .slice a l.length cap ∧ l.length ≤ cap ∧ cap ≤ 9223372036854775807 ∧ l.length * 32 ≤ 140737488355328 ∧ CellsAt w a (tokCells l)

theorem ToksR.below {w w' : World} {v : Value} {l : List Tok} (h : ToksR w v l) (hb : Below w.heap.size w w') : ToksR w' v l := by
  obtain ⟨a, cap, h1, h2, h3, h4, h5⟩ := h
  exact ⟨a, cap, h1, h2, h3, h4, h5.below hb⟩

theorem CellsAt.tok {w : World} {a : Option Addr} {l : List Tok} (h : CellsAt w a (tokCells l)) (hk : 0 < l.length) :
    ∃ b off, a = some ⟨b, off, none⟩ ∧ b < w.heap.size ∧ ∀ k, k < l.length → w.cell? ⟨b, off + k * 3, none⟩ = some (.int .i64 (l[k]?.getD default).kind) ∧
      w.cell? ⟨b, off + k * 3 + 1, none⟩ = some (.string (str (l[k]?.getD default).text)) ∧ w.cell? ⟨b, off + k * 3 + 2, none⟩ = some (.int .i64 (l[k]?.getD default).pos) := by
  rcases h with h | ⟨b, off, rfl, hl, hc⟩
  · have := tokCells_length l; rw [h] at this; simp at this; omega
  · refine ⟨b, off, rfl, hl, fun k hk => ?_⟩
    have hl3 := tokCells_length l
    refine ⟨?_, ?_, ?_⟩
    · rw [hc (k * 3) (by omega)]; exact tokCells_get l k hk 0 (by omega)
    · rw [Nat.add_assoc, hc (k * 3 + 1) (by omega)]; exact tokCells_get l k hk 1 (by omega)
    · rw [Nat.add_assoc, hc (k * 3 + 2) (by omega)]; exact tokCells_get l k hk 2 (by omega)

theorem owns_toks {w : World} {base : Nat} {e : TypeId} {v : Value} {l : List Tok} (h : w.ownsRow base e 3 v l.length (tokCells l)) (hb : l.length * 32 ≤ 140737488355328) : ToksR w v l := by
  obtain ⟨a, cap, h1, h2, h3, h4⟩ := owns_at h
  exact ⟨a, cap, h1, h2, h3, hb, h4⟩

end Go.Proofs.YtemmepgfngkgmaaGreatDoor
