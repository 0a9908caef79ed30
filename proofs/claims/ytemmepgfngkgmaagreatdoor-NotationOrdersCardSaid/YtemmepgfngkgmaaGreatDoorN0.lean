/-
  What the notation's texts compute, in plain lists: texts of lists, of graphs, of digraphs; the reading of tokens. No program in sight.
-/
import Derived.Test.YtemmepgfngkgmaaGreatDoorK0
import Derived.Test.YtemmepgfngkgmaaGreatDoorSpec
import Derived.Lib.ItoaNum
namespace Go.Proofs.YtemmepgfngkgmaaGreatDoor
open Go.RowKit
set_option linter.unusedVariables false
set_option linter.unusedSimpArgs false

/-! ## Writing -/
def limR (t : List UInt8) : Int × List UInt8 := if 4096 < t.length then (19, []) else (0, t)
def chipB (n : Int) : Bool := decide (-1048576 ≤ n) && decide (n ≤ 1048576)
def intsT (l : List Int) : List UInt8 := l.flatMap fun n => 32 :: Lib.itoa n
def intsR (word : List UInt8) (l : List Int) : Int × List UInt8 :=
  if wordErr word ≠ 0 then (wordErr word, []) else if 256 < l.length then (5, []) else if l.all chipB = false then (2, []) else limR (word ++ intsT l)
def timesT (m : Int) : List UInt8 := if m = 1 then [] else 42 :: Lib.itoa m
def arcT (sign : UInt8) (x : E) : List UInt8 := 32 :: (Lib.itoa x.a ++ sign :: (Lib.itoa x.b ++ timesT x.m))
def arcsT (sign : UInt8) (es : List E) : List UInt8 := es.flatMap (arcT sign)
/-- A table of edges or arcs behind its word. -/
def tabT (sign : UInt8) (g : G) : List UInt8 := Lib.itoa g.n ++ 58 :: arcsT sign g.es
def wGraph : List UInt8 := [103, 114, 97, 112, 104]
def wDigraph : List UInt8 := [100, 105, 103, 114, 97, 112, 104]
def wRibbon : List UInt8 := [114, 105, 98, 98, 111, 110]
def graphR (g : G) : Int × List UInt8 := if checkErr g ≠ 0 then (checkErr g, []) else limR (wGraph ++ 32 :: tabT 45 g)

/-- The error of arc i of a digraph. -/
def arcErr (g : G) (i : Nat) : Int :=
  if !vtx g.n (g.es[i]?.getD default).a || !vtx g.n (g.es[i]?.getD default).b || decide ((g.es[i]?.getD default).m < 1) || decide (50 < (g.es[i]?.getD default).m) then 2
  else if 0 < i ∧ ((g.es[i]?.getD default).a < (g.es[i - 1]?.getD default).a ∨ (g.es[i]?.getD default).a = (g.es[i - 1]?.getD default).a ∧ (g.es[i]?.getD default).b ≤ (g.es[i - 1]?.getD default).b) then 9
  else 0
def dgErr (g : G) : Int := if g.n < 1 ∨ 12 < g.n then 2 else firstNZ (arcErr g) 0 g.es.length
def digraphR (g : G) : Int × List UInt8 := if dgErr g ≠ 0 then (dgErr g, []) else limR (wDigraph ++ 32 :: tabT 62 g)

/-- The lists of a ribbon graph. -/
def listsT : List (List Int) → List UInt8
  | [] => []
  | [l] => intsT l
  | l :: r => intsT l ++ 32 :: 47 :: listsT r
def halfB (h : Int) (n : Int) : Bool := decide (0 ≤ n) && decide (n < h)
/-- How many single edges there are. -/
def sizeE (es : List E) : Int := (es.map (·.m)).foldl (· + ·) 0
def shapedErr (g : G) (ls : List (List Int)) : Int :=
  if checkErr g ≠ 0 then checkErr g else if (ls.length : Int) ≠ g.n then 8 else if ls.all (fun l => l.all (halfB (2 * sizeE g.es))) = false then 2 else 0
def ribbonR (g : G) (ls : List (List Int)) : Int × List UInt8 :=
  if shapedErr g ls ≠ 0 then (shapedErr g ls, []) else limR (wRibbon ++ 32 :: (tabT 45 g ++ 32 :: 59 :: listsT ls))

/-! ## Reading -/
/-- The number that digits make. -/
def numOf (l : List UInt8) : Nat := l.foldl (fun n c => 10 * n + (c.toNat - 48)) 0
def natR (l : List UInt8) : Int × Int := if natB l = false then (0, 3) else if 1099511627776 < numOf l then (0, 11) else (numOf l, 0)
def signedR (l : List Tok) (i : Nat) : Int × Int × Int :=
  if l.length ≤ i then (0, 0, 2)
  else
    let neg := (l[i]?.getD default).kind = 2 ∧ (l[i]?.getD default).text = [45]
    let j := if neg then i + 1 else i
    if l.length ≤ j ∨ (l[j]?.getD default).kind ≠ 1 ∨ neg ∧ (l[j]?.getD default).text = [48] then (0, 0, 4)
    else if (natR (l[j]?.getD default).text).2 ≠ 0 then (0, 0, (natR (l[j]?.getD default).text).2)
    else ((if neg then -(natR (l[j]?.getD default).text).1 else (natR (l[j]?.getD default).text).1), j + 1, 0)

/-- What is still to be read, the first error, and its place. -/
structure Rs where
  ts : List Tok
  e : Int
  pl : Int
  deriving Inhabited, DecidableEq
def Rs.now (s : Rs) : Tok := s.ts[0]?.getD default
def Rs.fail (k p : Int) (s : Rs) : Rs := if s.e = 0 then ⟨s.ts, k, p⟩ else s
def Rs.more (s : Rs) : Bool := decide (s.e = 0) && decide (s.now.kind ≠ 3)
def Rs.is (t : List UInt8) (s : Rs) : Bool := s.more && decide (s.now.text = t)
def Rs.skip (s : Rs) : Rs := ⟨s.ts.drop 1, s.e, s.pl⟩
def Rs.need (t : List UInt8) (s : Rs) : Rs := if s.is t then s.skip else s.fail 4 s.now.pos
def Rs.num (lo hi : Int) (s : Rs) : Int × Rs :=
  if s.e ≠ 0 ∨ s.now.kind ≠ 1 then (0, s.fail 4 s.now.pos)
  else if (natR s.now.text).2 ≠ 0 ∨ (natR s.now.text).1 < lo ∨ hi < (natR s.now.text).1 then (0, s.fail 2 s.now.pos)
  else ((natR s.now.text).1, s.skip)
/-- An edge, with its place. -/
structure Ln where
  a : Int
  b : Int
  m : Int
  pl : Int
  deriving Inhabited, DecidableEq
def Rs.mul (s : Rs) : Int × Rs := if s.is [42] then s.skip.num 1 50 else (1, s)
def Rs.line (sign : UInt8) (n : Int) (s : Rs) : Ln × Rs :=
  let p1 := s.num 0 (n - 1)
  let p2 := (p1.2.need [sign]).num 0 (n - 1)
  let p3 := p2.2.mul
  (⟨p1.1, p2.1, p3.1, s.now.pos⟩, p3.2)
def Rs.head (word : List UInt8) (s : Rs) : Int × Rs :=
  let p := (s.need word).num 1 12
  (p.1, p.2.need [58])
def opened (z : Scn) : Rs := match z with | .inl x => ⟨[⟨3, [], 0⟩], x.2, x.1⟩ | .inr l => ⟨l, 0, 0⟩

/-- How often two numbers are joined. -/
def addM (M : Int → Int → Int) (a b m : Int) : Int → Int → Int := fun x y => if x = a ∧ y = b then M a b + m else M x y
def lo (either : Bool) (x : Ln) : Int := if either then min x.a x.b else x.a
def hi (either : Bool) (x : Ln) : Int := if either then max x.a x.b else x.b
def tabG (sign : UInt8) (either : Bool) (n : Int) : Nat → (Int → Int → Int) → Rs → (Int → Int → Int) × Rs
  | 0, M, s => (M, s)
  | f + 1, M, s =>
    if s.more = false then (M, s)
    else
      let p := s.line sign n
      if p.2.e ≠ 0 then (M, p.2)
      else if 50 < M (lo either p.1) (hi either p.1) + p.1.m then (M, p.2.fail 5 p.1.pl)
      else tabG sign either n f (addM M (lo either p.1) (hi either p.1) p.1.m) p.2
/-- The edges or arcs that a table says. -/
def rowOfM (M : Int → Int → Int) (a : Nat) (n : Nat) : List E := (List.range n).flatMap fun (b : Nat) => if M (a : Int) (b : Int) = 0 then [] else [⟨(a : Int), (b : Int), M (a : Int) (b : Int)⟩]
def esOfM (M : Int → Int → Int) (n : Nat) : List E := (List.range n).flatMap fun (a : Nat) => rowOfM M a n
abbrev Rdd := (Int × Int) ⊕ G
def tableR (word : List UInt8) (sign : UInt8) (either : Bool) (text : List UInt8) : Rdd :=
  let h := (opened (scanR text)).head word
  if h.2.e ≠ 0 then .inl (h.2.pl, h.2.e)
  else
    let t := tabG sign either h.1 (h.2.ts.length) (fun _ _ => 0) h.2
    if t.2.e ≠ 0 then .inl (t.2.pl, t.2.e) else .inr ⟨h.1, esOfM t.1 h.1.toNat⟩
def readGraphR (text : List UInt8) : Rdd := tableR wGraph 45 true text
def readDigraphR (text : List UInt8) : Rdd := tableR wDigraph 62 false text

def tokAt (l : List Tok) (i : Nat) : Tok := l[i]?.getD default
/-- The ints of a list. -/
def intsG : Nat → List Int → List Tok → (Int × Int) ⊕ List Int
  | 0, out, _ => .inr out
  | f + 1, out, ts =>
    if (tokAt ts 0).kind = 3 then .inr out
    else if (signedR ts 0).2.2 = 4 then .inl (if (tokAt ts 0).text = [45] then (tokAt ts 1).pos else (tokAt ts 0).pos, 4)
    else if (signedR ts 0).2.2 ≠ 0 ∨ chipB (signedR ts 0).1 = false then .inl ((tokAt ts 0).pos, 2)
    else if out.length = 256 then .inl ((tokAt ts 0).pos, 5)
    else intsG f (out ++ [(signedR ts 0).1]) (ts.drop (signedR ts 0).2.1.toNat)
def readIntsR (text : List UInt8) : (Int × Int) ⊕ (List UInt8 × List Int) :=
  let s := opened (scanR text)
  let s := if s.now.kind ≠ 0 then s.fail 4 s.now.pos else s
  if s.e ≠ 0 then .inl (s.pl, s.e)
  else match intsG s.ts.length [] (s.ts.drop 1) with
    | .inl x => .inl x
    | .inr l => .inr (s.now.text, l)

/-- The edges of a ribbon graph, one after the other. -/
def exactG (n : Int) : Nat → List E → Rs → List E × Rs
  | 0, es, s => (es, s)
  | f + 1, es, s =>
    if s.e ≠ 0 ∨ s.is [59] = true then (es, s)
    else
      let p := s.line 45 n
      let bad := p.1.b < p.1.a ∨ 0 < es.length ∧ (p.1.a < (es[es.length - 1]?.getD default).a ∨ p.1.a = (es[es.length - 1]?.getD default).a ∧ p.1.b ≤ (es[es.length - 1]?.getD default).b)
      if p.2.e ≠ 0 then (es ++ [⟨p.1.a, p.1.b, p.1.m⟩], p.2)
      else if bad then (es ++ [⟨p.1.a, p.1.b, p.1.m⟩], p.2.fail 9 p.1.pl)
      else exactG n f (es ++ [⟨p.1.a, p.1.b, p.1.m⟩]) p.2
def putLast (ls : List (List Int)) (x : Int) : List (List Int) := ls.dropLast ++ [ls.getLast?.getD [] ++ [x]]
def listsG (n half : Int) : Nat → List (List Int) → Rs → List (List Int) × Rs
  | 0, ls, s => (ls, s)
  | f + 1, ls, s =>
    if s.more = false then (ls, s)
    else if s.is [47] = false then
      let p := s.num 0 (half - 1)
      listsG n half f (putLast ls p.1) p.2
    else
      let s1 := if (ls.length : Int) = n then s.fail 8 s.now.pos else s
      listsG n half f (ls ++ [[]]) s1.skip
def readRibbonR (text : List UInt8) : (Int × Int) ⊕ (G × List (List Int)) :=
  let h := (opened (scanR text)).head wRibbon
  if h.2.e ≠ 0 then .inl (h.2.pl, h.2.e)
  else
    let x := exactG h.1 h.2.ts.length [] h.2
    let s := x.2.need [59]
    if s.e ≠ 0 then .inl (s.pl, s.e)
    else
      let y := listsG h.1 (2 * sizeE x.1) s.ts.length [[]] s
      let t := if y.2.e = 0 ∧ (y.1.length : Int) ≠ h.1 then y.2.fail 8 y.2.now.pos else y.2
      if t.e ≠ 0 then .inl (t.pl, t.e) else .inr (⟨h.1, x.1⟩, y.1)

end Go.Proofs.YtemmepgfngkgmaaGreatDoor
