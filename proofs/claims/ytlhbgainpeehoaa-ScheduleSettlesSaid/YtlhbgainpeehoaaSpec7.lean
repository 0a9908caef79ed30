/-
  Plain definitions and laws: the events of a schedule; a struct in a block of its own.
-/
import Derived.Test.YtlhbgainpeehoaaSpec6
namespace Go.Proofs.Ytlhbgainpeehoaa
open Go.RowKit

/-- Block b of w holds the cells cs, of type t. -/
def Blk (w : World) (b : Nat) (cs : Array Value) (t : TypeId) : Prop := w.heap[b]? = some (.cells cs t (0, 0))
section
variable {w w' : World} {b : Nat} {cs : Array Value} {t : TypeId}
theorem Blk.cell (h : Blk w b cs t) (k : Nat) : w.cell? ⟨b, k, none⟩ = cs[k]? := by
  unfold Blk at h; simp [World.cell?, h]
theorem Blk.frozen (h : Blk w b cs t) (k : Nat) : w.frozen? ⟨b, k, none⟩ = false := by
  unfold Blk at h; simp [World.frozen?, h]
theorem Blk.lt (h : Blk w b cs t) : b < w.heap.size := (Array.getElem?_eq_some_iff.1 h).1
theorem Blk.set (h : Blk w b cs t) (k : Nat) (v : Value) : Blk (w.setCell ⟨b, k, none⟩ v) b (cs.setIfInBounds k v) t := by
  unfold Blk at *
  simp [World.setCell, Array.getElem?_modify, h]
theorem Blk.other (h : Blk w b cs t) {g : Nat} (hne : b ≠ g) (k : Nat) (v : Value) : Blk (w.setCell ⟨g, k, none⟩ v) b cs t := by
  unfold Blk at *
  rw [Below.heap_setCell _ _ _ _ hne]; exact h
theorem Blk.below (h : Blk w b cs t) (hB : Below w.heap.size w w') : Blk w' b cs t := by
  have := hB.block b h.lt
  unfold Blk at *
  rw [this]; exact h
theorem Blk.grown (h : Blk w b cs t) {row : Option Nat} (hg : w.grownBy w' row) (hne : row ≠ some b) : Blk w' b cs t := by
  have := hg.block b h.lt (fun e => hne e.symm)
  unfold Blk at *
  rw [this]; exact h
theorem Blk.alloc (h : Blk w b cs t) (o : Obj) : Blk (w.alloc o) b cs t := by
  have := heap_old w o b h.lt
  unfold Blk at *
  rw [this]; exact h
theorem Blk.new (w : World) (cs : Array Value) (t : TypeId) : Blk (w.alloc (.cells cs t)) w.heap.size cs t := heap_new w _
theorem Blk.drew (h : Blk w b cs t) : Blk w.drew b cs t := h
/-- What is owned elsewhere stays while a cell of the block is written. -/
theorem Blk.owns (_h : Blk w b cs t) {base : Nat} {e : TypeId} {size : Nat} {v : Value} {n : Nat} {xs : List Value} (ho : w.ownsRow base e size v n xs) (hne : v.ownBlock ≠ some b) (k : Nat) (u : Value) :
    (w.setCell ⟨b, k, none⟩ u).ownsRow base e size v n xs := ho.kept (grown_set w b k u) (.inr hne)
end

theorem gcell {w w' : World} {v : Value} {B : Nat} (hg : w.grownBy w' v.ownBlock) (hv : v.ownBlock = some B) : (∀ b o, b < w.heap.size → b ≠ B → w'.cell? ⟨b, o, none⟩ = w.cell? ⟨b, o, none⟩) ∧ (∀ b o, b < w.heap.size → b ≠ B → w'.frozen? ⟨b, o, none⟩ = w.frozen? ⟨b, o, none⟩) := by
  rw [hv] at hg
  exact ⟨fun b o h hne => World.cell?_of_block (hg.block b h (by simpa using hne)), fun b o h hne => World.frozen?_of_block (hg.block b h (by simpa using hne))⟩

/-- One event: what is there behind it, and who fires. -/
def evStp (g : G) (q : Int) (N : Nat) (x : Int × Int) (s : St) : St × Int :=
  if x.1 = 1 then ({ L := fun u => if u = x.2.toNat then s.L u + 1 else s.L u, T := s.T }, -1)
  else if waitN g q N s.L = [] then (s, -1)
  else (fireS g (chosen (waitN g q N s.L) x.2).toNat s, chosen (waitN g q N s.L) x.2)
/-- What is there behind the first k events, and the trace. -/
def evTo (g : G) (q : Int) (N : Nat) (l : List (Int × Int)) (s0 : St) : Nat → St × List Int
  | 0 => (s0, [])
  | k + 1 => ((evStp g q N (l[k]?.getD (0, 0)) (evTo g q N l s0 k).1).1, (evTo g q N l s0 k).2 ++ [(evStp g q N (l[k]?.getD (0, 0)) (evTo g q N l s0 k).1).2])

theorem evTo_len (g : G) (q : Int) (N : Nat) (l : List (Int × Int)) (s0 : St) : ∀ k, (evTo g q N l s0 k).2.length = k
  | 0 => rfl
  | k + 1 => by simp [evTo, evTo_len g q N l s0 k]

theorem sumTo_congr (f h : Nat → Int) : ∀ n, (∀ k, k < n → f k = h k) → sumTo f n = sumTo h n
  | 0, _ => rfl
  | n + 1, e => by unfold sumTo; rw [sumTo_congr f h n (fun k hk => e k (by omega)), e n (by omega)]
theorem sumTo_one (x : Int) (v : Nat) : ∀ n, sumTo (fun w => if w = v then x else 0) n = if v < n then x else 0
  | 0 => by simp [sumTo]
  | n + 1 => by
    unfold sumTo
    rw [sumTo_one x v n]
    by_cases h1 : v < n
    · rw [if_pos h1, if_neg (by omega), if_pos (by omega)]; omega
    · rw [if_neg h1]
      by_cases h2 : n = v
      · rw [if_pos h2, if_pos (by omega)]; omega
      · rw [if_neg h2, if_neg (by omega)]; omega
theorem sumTo_neg (f : Nat → Int) : ∀ n, sumTo (fun k => -f k) n = -sumTo f n
  | 0 => rfl
  | n + 1 => by unfold sumTo; rw [sumTo_neg f n]; omega
theorem btw_comm (g : G) (u v : Int) : btw g u v = btw g v u := by unfold btw; rw [Int.min_comm, Int.max_comm]

/-- To fire v once is to move the chips by the script that fires v. -/
theorem moved_fire (g : G) (L : Nat → Int) (v u : Nat) (_hu : u < g.n.toNat) (hv : v < g.n.toNat) : movedV g L (oneAt v 1) u = fireL g v L u := by
  unfold movedV fireL
  by_cases h : u = v
  · subst h
    rw [if_pos rfl]
    have h1 : sumTo (mv g (oneAt u 1) u) g.n.toNat = sumTo (fun k => -valTerm g u k) g.n.toNat := sumTo_congr _ _ _ fun k _ => by
      unfold mv valTerm oneAt
      by_cases e : u = k
      · subst e; simp
      · have e1 : ¬ ((k : Int) = (u : Int)) := by omega
        rw [if_pos e, if_neg e1, if_pos rfl, if_pos e1, btw_comm]; omega
    rw [h1, sumTo_neg]
    have h2 : rowsF g u u = 0 := by unfold rowsF; simp
    rw [h2]
    unfold valence
    omega
  · rw [if_neg h]
    have h1 : sumTo (mv g (oneAt v 1) u) g.n.toNat = sumTo (fun w => if w = v then rowsF g v u else 0) g.n.toNat := sumTo_congr _ _ _ fun k _ => by
      unfold mv oneAt rowsF
      have e2 : ¬ ((u : Int) = (v : Int)) := by omega
      by_cases e : k = v
      · subst e
        rw [if_pos h, if_pos rfl, if_neg e2, if_pos rfl, if_pos (fun e => h e.symm), btw_comm]; omega
      · have e1 : ¬ ((k : Int) = (v : Int)) := by omega
        rw [if_neg e1, if_neg e2, if_neg e]
        split <;> simp
    rw [h1, sumTo_one, if_pos hv]

theorem evTo_ok {g : G} (hg : Gok g) (q : Int) (N : Nat) (l : List (Int × Int)) (s0 : St) (c : Int) (h0 : okS N c 0 s0) : ∀ k, okS N c k (evTo g q N l s0 k).1
  | 0 => h0
  | k + 1 => by
    have ih := evTo_ok hg q N l s0 c h0 k
    have mono : okS N c (k + 1) (evTo g q N l s0 k).1 := ⟨fun u hu => by have := ih.1 u hu; omega, fun u hu => by have := ih.2 u hu; omega⟩
    show okS N c (k + 1) (evStp g q N (l[k]?.getD (0, 0)) (evTo g q N l s0 k).1).1
    unfold evStp
    split
    · refine ⟨fun u hu => ?_, mono.2⟩
      have := ih.1 u hu
      dsimp only
      split <;> omega
    · split
      · exact mono
      · exact okS_fire hg ih _

/-- Is a divisor in its bounds? -/
def bddB (N : Nat) (L : Nat → Int) : Bool := (vecOf N L).all inB
/-- A run: the number of the error, or the end. -/
def runErr (g : G) (q : Int) (ds : List Int) (l : List (Int × Int)) : Int := if cfgErr g q ds ≠ 0 then cfgErr g q ds else evsErr g l
def dOf (ds : List Int) : Nat → Int := fun u => ds[u]?.getD 0
def s0Of (ds : List Int) : St := ⟨dOf ds, fun _ => 0⟩
def runR (g : G) (q : Int) (ds : List Int) (l : List (Int × Int)) : Int ⊕ St :=
  if runErr g q ds l ≠ 0 then .inl (runErr g q ds l)
  else if bddB g.n.toNat (evTo g q g.n.toNat l (s0Of ds) l.length).1.L then .inr (evTo g q g.n.toNat l (s0Of ds) l.length).1 else .inl 11
def traceR (g : G) (q : Int) (ds : List Int) (l : List (Int × Int)) : Int ⊕ List Int :=
  if runErr g q ds l ≠ 0 then .inl (runErr g q ds l) else .inr (evTo g q g.n.toNat l (s0Of ds) l.length).2

end Go.Proofs.Ytlhbgainpeehoaa
