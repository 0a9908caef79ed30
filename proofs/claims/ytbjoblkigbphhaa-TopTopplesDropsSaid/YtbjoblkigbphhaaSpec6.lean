/-
  Plain definitions and laws: settling by picks.
  Plain definitions and laws: the events of a schedule; a struct in a block of its own.
  Forests: each vertex has a vertex of its part, never a greater one.
-/
import Derived.Test.YtbjoblkigbphhaaSpec2
namespace Go.Proofs.Ytbjoblkigbphhaa
open Go.RowKit

theorem bext {s : Nat} {W0 W W' : World} (h : Below s W0 W) (hs : s ≤ W0.heap.size) (h1 : Below W.heap.size W W') : Below s W0 W' := h.trans (h1.mono (Nat.le_trans hs h.size))
def pickAt (picks : List Int) (i : Nat) : Int := picks[i % picks.length]?.getD 0
/-- A row of zeros, as a block. -/
def zer (N : Nat) : Array Value := (List.replicate N (Value.int .i64 0)).toArray
theorem owns_zer {w : World} {B N : Nat} {e : TypeId} (base : Nat) (h : w.heap[B]? = some (.cells (zer N) e (0, 0))) (hb : base ≤ B) (hN : N ≤ 1000) : w.ownsRow base e 1 (.slice (some ⟨B, 0, none⟩) N N) N ((vecOf N fun _ => 0).map (Value.int .i64)) := by
  refine ⟨by simp [vecOf], .inr ⟨B, N, zer N, rfl, hb, h, Nat.le_refl _, by unfold maxLen; omega, by simp [zer], ?_⟩⟩
  rw [← vecOf_zero]; simp [zer, List.take_of_length_le]
theorem owns_empty {w : World} {B : Nat} {e : TypeId} (base : Nat) (h : w.heap[B]? = some (.cells #[] e (0, 0))) (hb : base ≤ B) : w.ownsRow base e 1 (.slice (some ⟨B, 0, none⟩) 0 0) 0 [] :=
  ⟨rfl, .inr ⟨B, 0, #[], rfl, hb, h, Nat.le_refl _, Nat.zero_le _, rfl, rfl⟩⟩
theorem run_zer {P : Program} (t e : TypeId) (ht : P.underlying t = some (.slice e)) (hinfo : (P.info? e).map (fun i => (i.zero, i.size, i.bytes)) = some (some (.int .i64 0), 1, 8))
    (n : Int) (N : Nat) (h1 : (N : Int) ≤ n) (h2 : n ≤ (N : Int)) (h3 : N ≤ 1000) (w : World) :
    (Instr.makeSlice t (.int .i64 n) (.int .i64 n)).run P w = .ok (.slice (some ⟨w.heap.size, 0, none⟩) N N) (w.alloc (.cells (zer N) e)) := by
  obtain ⟨i, hi, hz, hs, hby⟩ := info_parts hinfo
  obtain rfl : n = (N : Int) := by omega
  have h := run_make (P := P) w t e i (.int .i64 0) ht hi hz .i64 .i64 N N (by omega) (Int.le_refl _) (by rw [hby]; omega) (by omega)
  rw [hs] at h
  simp only [Int.toNat_natCast, Nat.mul_one] at h
  have e1 : madeCells (Value.int .i64 0).cells N = zer N := by
    apply Array.toList_inj.1
    rw [show (Value.int .i64 0).cells = #[Value.int .i64 0] from rfl, toList_madeCells_one]; simp [zer]
  rw [e1] at h
  exact h
theorem heap_new (w : World) (o : Obj) : (w.alloc o).heap[w.heap.size]? = some o := by show (w.heap.push o)[w.heap.size]? = _; simp
theorem heap_new' (w : World) (o : Obj) (k : Nat) (h : k = w.heap.size) : (w.alloc o).heap[k]? = some o := by subst h; exact heap_new w o
theorem heap_drew (w : World) (k : Nat) : w.drew.heap[k]? = w.heap[k]? := rfl
theorem heap_old (w : World) (o : Obj) (k : Nat) (h : k < w.heap.size) : (w.alloc o).heap[k]? = w.heap[k]? := Below.heap_alloc w o k h

theorem owns_intsN {w : World} {base : Nat} {e : TypeId} {a : Option Addr} {N cap : Nat} {xs : List Int} (h : w.ownsRow base e 1 (.slice a N cap) N (xs.map (Value.int .i64))) (hl : xs.length = N) (hb : N ≤ 1000000) : IntsR w (.slice a N cap) xs := by
  subst hl; exact owns_ints h (by omega)
theorem pickAt_nn (picks : List Int) (h : ∀ k ∈ picks, 0 ≤ k) (i : Nat) : 0 ≤ pickAt picks i := by
  unfold pickAt
  cases hp : picks[i % picks.length]? with
  | none => simp
  | some x => simp; exact h x (List.mem_of_getElem? hp)

/-- A graph that was boxed: its cells, wherever nothing old has turned. -/
theorem boxed {w : World} (n ev : Value) (t : TypeId) {W : World} (h : Below (w.heap.size + 1) (w.alloc (.cells #[n, ev] t)) W) :
    W.cell? ⟨w.heap.size, 0, none⟩ = some n ∧ W.cell? ⟨w.heap.size, 1, none⟩ = some ev := by
  constructor
  · rw [h.cell (p := ⟨w.heap.size, 0, none⟩) (Nat.lt_succ_self _)]; simp
  · rw [h.cell (p := ⟨w.heap.size, 1, none⟩) (Nat.lt_succ_self _)]; simp

/-- The rows of the matrix of edges. -/
def rowsF (g : G) (v w : Nat) : Int := if v ≠ w then btw g v w else 0
/-- What is there, and how often each vertex has fired. -/
structure St where
  L : Nat → Int
  T : Nat → Int
/-- The chips behind the firing of v. -/
def fireL (g : G) (v : Nat) (L : Nat → Int) (u : Nat) : Int := (if u = v then L u - valence g v else L u) + rowsF g v u
def isUnst (g : G) (q : Int) (L : Nat → Int) (v : Nat) : Bool := decide ((v : Int) ≠ q) && decide (valence g v ≤ L v)
/-- The unstable vertices. -/
def waitN (g : G) (q : Int) (N : Nat) (L : Nat → Int) : List Int := waitTo (isUnst g q L) N
/-- The chosen one of l. -/
def chosen (l : List Int) (p : Int) : Int := l[(p % l.length).toNat]?.getD 0
def fireS (g : G) (v : Nat) (s : St) : St := { L := fireL g v s.L, T := fun u => if u = v then s.T u + 1 else s.T u }
def stp (g : G) (q : Int) (N : Nat) (picks : List Int) (i : Nat) (s : St) : St := fireS g (chosen (waitN g q N s.L) (pickAt picks i)).toNat s
/-- Settling with so many firings left, from the i-th on. -/
def sGo (g : G) (q : Int) (N : Nat) (picks : List Int) : Nat → Nat → St → Option St
  | 0, _, s => if waitN g q N s.L = [] then some s else none
  | f + 1, i, s => if waitN g q N s.L = [] then some s else sGo g q N picks f (i + 1) (stp g q N picks i s)
def maxF : Nat := 1048576
theorem maxF_eq : (maxF : Int) = 1048576 := rfl

theorem sGo_done (g : G) (q : Int) (N : Nat) (picks : List Int) (f i : Nat) (s : St) (h : waitN g q N s.L = []) : sGo g q N picks f i s = some s := by
  cases f <;> simp [sGo, h]
theorem sGo_over (g : G) (q : Int) (N : Nat) (picks : List Int) (i : Nat) (s : St) (h : waitN g q N s.L ≠ []) : sGo g q N picks 0 i s = none := by simp [sGo, h]
theorem sGo_step (g : G) (q : Int) (N : Nat) (picks : List Int) (i : Nat) (s : St) (h : waitN g q N s.L ≠ []) (hi : i < maxF) :
    sGo g q N picks (maxF - i) i s = sGo g q N picks (maxF - (i + 1)) (i + 1) (stp g q N picks i s) := by
  obtain ⟨f, hf⟩ : ∃ f, maxF - i = f + 1 := ⟨maxF - i - 1, by omega⟩
  rw [hf, show maxF - (i + 1) = f by omega]
  simp [sGo, h]

theorem waitN_eq (g : G) (q : Int) (N : Nat) (vs : List Int) (L : Nat → Int) (hv : ∀ v, v < N → vs[v]?.getD 0 = valence g v) :
    waitTo (unst q (fun u => vs[u]?.getD 0) (vecOf N L)) N = waitN g q N L :=
  waitTo_congr _ _ _ fun v h => by unfold unst isUnst; rw [vecOf_get _ _ _ h]; simp only [hv v h]
theorem waitN_len (g : G) (q : Int) (N : Nat) (L : Nat → Int) : (waitN g q N L).length ≤ N := waitTo_len _ _
theorem chosen_bd (g : G) (q : Int) (N : Nat) (L : Nat → Int) (p : Int) (_hp : 0 ≤ p) (h : waitN g q N L ≠ []) :
    0 ≤ chosen (waitN g q N L) p ∧ chosen (waitN g q N L) p < N ∧ chosen (waitN g q N L) p ≠ q ∧ valence g (chosen (waitN g q N L) p).toNat ≤ L (chosen (waitN g q N L) p).toNat := by
  have hl : 0 < (waitN g q N L).length := List.length_pos_iff.2 h
  have hm : (p % (waitN g q N L).length).toNat < (waitN g q N L).length := by
    have h1 := Int.emod_lt_of_pos p (show (0 : Int) < ((waitN g q N L).length : Int) by omega)
    have h2 := Int.emod_nonneg p (show ((waitN g q N L).length : Int) ≠ 0 by omega)
    omega
  have hmem : chosen (waitN g q N L) p ∈ waitN g q N L := by
    unfold chosen
    rw [List.getElem?_eq_getElem hm]
    exact List.getElem_mem hm
  have h3 := waitTo_mem _ _ _ hmem
  refine ⟨h3.1, h3.2.1, ?_, ?_⟩
  · have := h3.2.2; unfold isUnst at this; simp at this; omega
  · have := h3.2.2; unfold isUnst at this; rw [Bool.and_eq_true] at this; exact of_decide_eq_true this.2

/-- All is within bounds after i firings. -/
def okS (N : Nat) (c : Int) (i : Nat) (s : St) : Prop := (∀ u, u < N → -(c + 700 * i) ≤ s.L u ∧ s.L u ≤ c + 700 * i) ∧ ∀ u, u < N → 0 ≤ s.T u ∧ s.T u ≤ i
theorem rowsF_bd {g : G} (hg : Gok g) (v u : Nat) : 0 ≤ rowsF g v u ∧ rowsF g v u ≤ 50 := by
  have := hg.btw_bd v u
  unfold rowsF; split <;> omega
theorem val_bd {g : G} (hg : Gok g) (v : Int) : 0 ≤ valence g v ∧ valence g v ≤ 600 := hg.valence_bd v _ (Nat.le_refl _)
theorem okS_fire {g : G} (hg : Gok g) {N : Nat} {c : Int} {i : Nat} {s : St} (h : okS N c i s) (v : Nat) : okS N c (i + 1) (fireS g v s) := by
  refine ⟨fun u hu => ?_, fun u hu => ?_⟩
  · have h1 := h.1 u hu
    have h2 := rowsF_bd hg v u
    have h3 := val_bd hg v
    show _ ≤ fireL g v s.L u ∧ fireL g v s.L u ≤ _
    unfold fireL
    split <;> omega
  · have h1 := h.2 u hu
    show _ ≤ (if u = v then s.T u + 1 else s.T u) ∧ (if u = v then s.T u + 1 else s.T u) ≤ _
    split <;> omega

/-- The row while v fires: what v loses is gone, the neighbours below u have theirs. -/
def fireSt (g : G) (v u : Nat) (L : Nat → Int) (k : Nat) : Int := (if k = v then L k - valence g v else L k) + if k < u then rowsF g v k else 0
theorem fireSt_start (g : G) (N v : Nat) (L : Nat → Int) : (vecOf N L).set v (L v - valence g v) = vecOf N (fireSt g v 0 L) := by
  rw [vecOf_set]
  refine vecOf_congr _ _ _ fun k _ => ?_
  unfold fireSt
  by_cases h : k = v
  · subst h; simp
  · simp [h]
theorem fireSt_step (g : G) (N v u : Nat) (L : Nat → Int) : vecOf N (fireSt g v (u + 1) L) = (vecOf N (fireSt g v u L)).set u (fireSt g v u L u + rowsF g v u) := by
  rw [vecOf_set]
  refine vecOf_congr _ _ _ fun k _ => ?_
  unfold fireSt
  by_cases h : k = u
  · subst h; simp
  · rw [if_neg h]
    congr 1
    by_cases h2 : k < u
    · rw [if_pos h2, if_pos (by omega)]
    · rw [if_neg h2, if_neg (by omega)]
theorem fireSt_at {g : G} (hg : Gok g) {N : Nat} {c : Int} {i : Nat} {s : St} (h : okS N c i s) (v u : Nat) (hu : u < N) :
    -(c + 700 * i) - 600 ≤ fireSt g v u s.L u ∧ fireSt g v u s.L u ≤ c + 700 * i := by
  have h1 := h.1 u hu
  have h3 := val_bd hg v
  unfold fireSt
  rw [if_neg (show ¬ u < u by omega)]
  split <;> omega
theorem fireSt_end (g : G) (N v : Nat) (L : Nat → Int) : vecOf N (fireSt g v N L) = vecOf N (fireL g v L) :=
  vecOf_congr _ _ _ fun k hk => by unfold fireSt fireL; rw [if_pos hk]

/-- Settling: the number of the error, or the end. -/
def settleR (g : G) (q : Int) (ds : List Int) (picks : List Int) : Int ⊕ St :=
  if givErr g q ds picks ≠ 0 then .inl (givErr g q ds picks)
  else match sGo g q g.n.toNat picks maxF 0 ⟨fun u => ds[u]?.getD 0, fun _ => 0⟩ with
    | none => .inl 12
    | some s => if inB (s.L q.toNat) then .inr s else .inl 11

/-- A divisor and a script are handed back, or nothing and the number of an error. -/
def RetTri (T0 : TypeId) (w : World) (N : Nat) (r : Int ⊕ St) (e : Ending) (w' : World) : Prop :=
  Below w.heap.size w w' ∧ match r with
  | .inl k => e = .returned (.tuple #[.slice none 0 0, .slice none 0 0, .int .i64 k])
  | .inr s => ∃ b1 c1 b2 c2, e = .returned (.tuple #[.slice (some ⟨b1, 0, none⟩) N c1, .slice (some ⟨b2, 0, none⟩) N c2, .int .i64 0]) ∧
      w'.ownsRow w.heap.size T0 1 (.slice (some ⟨b1, 0, none⟩) N c1) N ((vecOf N s.L).map (Value.int .i64)) ∧
      w'.ownsRow w.heap.size T0 1 (.slice (some ⟨b2, 0, none⟩) N c2) N ((vecOf N s.T).map (Value.int .i64))

theorem giv_ok {g : G} {q : Int} {ds picks : List Int} (h : givErr g q ds picks = 0) : cfgErr g q ds = 0 ∧ pkErr picks = 0 := by
  unfold givErr at h
  by_cases h1 : cfgErr g q ds = 0
  · rw [if_neg (by simpa using h1)] at h; exact ⟨h1, h⟩
  · rw [if_pos h1] at h; exact absurd h h1
theorem cfg_ok {g : G} {q : Int} {ds : List Int} (h : cfgErr g q ds = 0) : Gok g ∧ 0 ≤ q ∧ q < g.n ∧ (ds.length : Int) = g.n ∧ (∀ k ∈ ds, -1048576 ≤ k ∧ k ≤ 1048576) ∧ ∀ v : Nat, v < ds.length → (v : Int) ≠ q → 0 ≤ ds[v]?.getD 0 := by
  unfold cfgErr at h
  by_cases h1 : rootedErr g q = 0
  · rw [if_neg (by simpa using h1)] at h
    by_cases h2 : dErr ds g.n = 0
    · rw [if_neg (by simpa using h2)] at h
      obtain ⟨hg, hq0, hqn⟩ := rooted_ok h1
      obtain ⟨_, _, hl, hb⟩ := dErr_ok h2
      refine ⟨hg, hq0, hqn, hl, hb, fun v hv hne => ?_⟩
      by_cases h3 : anyFrom (debtAt q ds) 0 g.n.toNat = true
      · rw [if_pos h3] at h; omega
      · have := mt (anyFrom_iff (debtAt q ds) g.n.toNat 0).2 h3
        apply Int.not_lt.1
        intro hlt
        exact this ⟨v, Nat.zero_le _, by omega, by unfold debtAt; simp [hne, hlt]⟩
    · rw [if_pos h2] at h; exact absurd h h2
  · rw [if_pos h1] at h; exact absurd h h1
theorem pk_ok {l : List Int} (h : pkErr l = 0) : 0 < l.length ∧ l.length ≤ 4096 ∧ ∀ k ∈ l, 0 ≤ k := by
  unfold pkErr at h
  by_cases h1 : 4096 < l.length
  · rw [if_pos h1] at h; omega
  · rw [if_neg h1] at h
    by_cases h2 : l.length = 0
    · rw [if_pos h2] at h; omega
    · rw [if_neg h2] at h
      by_cases h3 : l.all (fun k => decide (0 ≤ k)) = true
      · exact ⟨by omega, by omega, fun k hk => by simpa using List.all_eq_true.1 h3 k hk⟩
      · rw [if_neg h3] at h; omega

end Go.Proofs.Ytbjoblkigbphhaa

namespace Go.Proofs.Ytbjoblkigbphhaa
open Go.RowKit

/-- Block b of w holds the cells cs, of type t. -/
def Blk (w : World) (b : Nat) (cs : Array Value) (t : TypeId) : Prop := w.heap[b]? = some (.cells cs t (0, 0))
section
variable {w w' : World} {b : Nat} {cs : Array Value} {t : TypeId}
theorem Blk.cell (h : Blk w b cs t) (k : Nat) : w.cell? ⟨b, k, none⟩ = cs[k]? := by
  unfold Blk at h; simp [World.cell?, h]
theorem Blk.frozen (h : Blk w b cs t) (k : Nat) : w.frozen? ⟨b, k, none⟩ = false := by
  unfold Blk at h; simp [World.frozen?, h]
theorem Blk.lt (h : Blk w b cs t) : b < w.heap.size := (Array.getElem?_eq_some_iff.1 h).1
theorem Blk.set (h : Blk w b cs t) (k : Nat) (v : Value) : Blk (w.setCell ⟨b, k, none⟩ v) b (cs.setIfInBounds k v) t := by
  unfold Blk at *
  simp [World.setCell, Array.getElem?_modify, h]
theorem Blk.other (h : Blk w b cs t) {g : Nat} (hne : b ≠ g) (k : Nat) (v : Value) : Blk (w.setCell ⟨g, k, none⟩ v) b cs t := by
  unfold Blk at *
  rw [Below.heap_setCell _ _ _ _ hne]; exact h
theorem Blk.below (h : Blk w b cs t) (hB : Below w.heap.size w w') : Blk w' b cs t := by
  have := hB.block b h.lt
  unfold Blk at *
  rw [this]; exact h
theorem Blk.grown (h : Blk w b cs t) {row : Option Nat} (hg : w.grownBy w' row) (hne : row ≠ some b) : Blk w' b cs t := by
  have := hg.block b h.lt (fun e => hne e.symm)
  unfold Blk at *
  rw [this]; exact h
theorem Blk.alloc (h : Blk w b cs t) (o : Obj) : Blk (w.alloc o) b cs t := by
  have := heap_old w o b h.lt
  unfold Blk at *
  rw [this]; exact h
theorem Blk.new (w : World) (cs : Array Value) (t : TypeId) : Blk (w.alloc (.cells cs t)) w.heap.size cs t := heap_new w _
theorem Blk.drew (h : Blk w b cs t) : Blk w.drew b cs t := h
/-- What is owned elsewhere stays while a cell of the block is written. -/
theorem Blk.owns (_h : Blk w b cs t) {base : Nat} {e : TypeId} {size : Nat} {v : Value} {n : Nat} {xs : List Value} (ho : w.ownsRow base e size v n xs) (hne : v.ownBlock ≠ some b) (k : Nat) (u : Value) :
    (w.setCell ⟨b, k, none⟩ u).ownsRow base e size v n xs := ho.kept (grown_set w b k u) (.inr hne)
end

theorem gcell {w w' : World} {v : Value} {B : Nat} (hg : w.grownBy w' v.ownBlock) (hv : v.ownBlock = some B) : (∀ b o, b < w.heap.size → b ≠ B → w'.cell? ⟨b, o, none⟩ = w.cell? ⟨b, o, none⟩) ∧ (∀ b o, b < w.heap.size → b ≠ B → w'.frozen? ⟨b, o, none⟩ = w.frozen? ⟨b, o, none⟩) := by
  rw [hv] at hg
  exact ⟨fun b o h hne => World.cell?_of_block (hg.block b h (by simpa using hne)), fun b o h hne => World.frozen?_of_block (hg.block b h (by simpa using hne))⟩

/-- One event: what is there behind it, and who fires. -/
def evStp (g : G) (q : Int) (N : Nat) (x : Int × Int) (s : St) : St × Int :=
  if x.1 = 1 then ({ L := fun u => if u = x.2.toNat then s.L u + 1 else s.L u, T := s.T }, -1)
  else if waitN g q N s.L = [] then (s, -1)
  else (fireS g (chosen (waitN g q N s.L) x.2).toNat s, chosen (waitN g q N s.L) x.2)
/-- What is there behind the first k events, and the trace. -/
def evTo (g : G) (q : Int) (N : Nat) (l : List (Int × Int)) (s0 : St) : Nat → St × List Int
  | 0 => (s0, [])
  | k + 1 => ((evStp g q N (l[k]?.getD (0, 0)) (evTo g q N l s0 k).1).1, (evTo g q N l s0 k).2 ++ [(evStp g q N (l[k]?.getD (0, 0)) (evTo g q N l s0 k).1).2])

theorem evTo_len (g : G) (q : Int) (N : Nat) (l : List (Int × Int)) (s0 : St) : ∀ k, (evTo g q N l s0 k).2.length = k
  | 0 => rfl
  | k + 1 => by simp [evTo, evTo_len g q N l s0 k]

theorem sumTo_congr (f h : Nat → Int) : ∀ n, (∀ k, k < n → f k = h k) → sumTo f n = sumTo h n
  | 0, _ => rfl
  | n + 1, e => by unfold sumTo; rw [sumTo_congr f h n (fun k hk => e k (by omega)), e n (by omega)]
theorem sumTo_one (x : Int) (v : Nat) : ∀ n, sumTo (fun w => if w = v then x else 0) n = if v < n then x else 0
  | 0 => by simp [sumTo]
  | n + 1 => by
    unfold sumTo
    rw [sumTo_one x v n]
    by_cases h1 : v < n
    · rw [if_pos h1, if_neg (by omega), if_pos (by omega)]; omega
    · rw [if_neg h1]
      by_cases h2 : n = v
      · rw [if_pos h2, if_pos (by omega)]; omega
      · rw [if_neg h2, if_neg (by omega)]; omega
theorem sumTo_neg (f : Nat → Int) : ∀ n, sumTo (fun k => -f k) n = -sumTo f n
  | 0 => rfl
  | n + 1 => by unfold sumTo; rw [sumTo_neg f n]; omega
theorem btw_comm (g : G) (u v : Int) : btw g u v = btw g v u := by unfold btw; rw [Int.min_comm, Int.max_comm]

/-- To fire v once is to move the chips by the script that fires v. -/
theorem moved_fire (g : G) (L : Nat → Int) (v u : Nat) (_hu : u < g.n.toNat) (hv : v < g.n.toNat) : movedV g L (oneAt v 1) u = fireL g v L u := by
  unfold movedV fireL
  by_cases h : u = v
  · subst h
    rw [if_pos rfl]
    have h1 : sumTo (mv g (oneAt u 1) u) g.n.toNat = sumTo (fun k => -valTerm g u k) g.n.toNat := sumTo_congr _ _ _ fun k _ => by
      unfold mv valTerm oneAt
      by_cases e : u = k
      · subst e; simp
      · have e1 : ¬ ((k : Int) = (u : Int)) := by omega
        rw [if_pos e, if_neg e1, if_pos rfl, if_pos e1, btw_comm]; omega
    rw [h1, sumTo_neg]
    have h2 : rowsF g u u = 0 := by unfold rowsF; simp
    rw [h2]
    unfold valence
    omega
  · rw [if_neg h]
    have h1 : sumTo (mv g (oneAt v 1) u) g.n.toNat = sumTo (fun w => if w = v then rowsF g v u else 0) g.n.toNat := sumTo_congr _ _ _ fun k _ => by
      unfold mv oneAt rowsF
      have e2 : ¬ ((u : Int) = (v : Int)) := by omega
      by_cases e : k = v
      · subst e
        rw [if_pos h, if_pos rfl, if_neg e2, if_pos rfl, if_pos (fun e => h e.symm), btw_comm]; omega
      · have e1 : ¬ ((k : Int) = (v : Int)) := by omega
        rw [if_neg e1, if_neg e2, if_neg e]
        split <;> simp
    rw [h1, sumTo_one, if_pos hv]

theorem evTo_ok {g : G} (hg : Gok g) (q : Int) (N : Nat) (l : List (Int × Int)) (s0 : St) (c : Int) (h0 : okS N c 0 s0) : ∀ k, okS N c k (evTo g q N l s0 k).1
  | 0 => h0
  | k + 1 => by
    have ih := evTo_ok hg q N l s0 c h0 k
    have mono : okS N c (k + 1) (evTo g q N l s0 k).1 := ⟨fun u hu => by have := ih.1 u hu; omega, fun u hu => by have := ih.2 u hu; omega⟩
    show okS N c (k + 1) (evStp g q N (l[k]?.getD (0, 0)) (evTo g q N l s0 k).1).1
    unfold evStp
    split
    · refine ⟨fun u hu => ?_, mono.2⟩
      have := ih.1 u hu
      dsimp only
      split <;> omega
    · split
      · exact mono
      · exact okS_fire hg ih _

/-- Is a divisor in its bounds? -/
def bddB (N : Nat) (L : Nat → Int) : Bool := (vecOf N L).all inB
/-- A run: the number of the error, or the end. -/
def runErr (g : G) (q : Int) (ds : List Int) (l : List (Int × Int)) : Int := if cfgErr g q ds ≠ 0 then cfgErr g q ds else evsErr g l
def dOf (ds : List Int) : Nat → Int := fun u => ds[u]?.getD 0
def s0Of (ds : List Int) : St := ⟨dOf ds, fun _ => 0⟩
def runR (g : G) (q : Int) (ds : List Int) (l : List (Int × Int)) : Int ⊕ St :=
  if runErr g q ds l ≠ 0 then .inl (runErr g q ds l)
  else if bddB g.n.toNat (evTo g q g.n.toNat l (s0Of ds) l.length).1.L then .inr (evTo g q g.n.toNat l (s0Of ds) l.length).1 else .inl 11
def traceR (g : G) (q : Int) (ds : List Int) (l : List (Int × Int)) : Int ⊕ List Int :=
  if runErr g q ds l ≠ 0 then .inl (runErr g q ds l) else .inr (evTo g q g.n.toNat l (s0Of ds) l.length).2

end Go.Proofs.Ytbjoblkigbphhaa

namespace Go.Proofs.Ytbjoblkigbphhaa
set_option linter.unusedVariables false
open Go.RowKit

/-- The vertex that stands for the part of v, in n steps. -/
def rt (F : Nat → Nat) : Nat → Nat → Nat
  | 0, v => v
  | n + 1, v => if F v = v then v else rt F n (F v)
/-- The vertex that stands for the part of v. -/
def root (F : Nat → Nat) (v : Nat) : Nat := rt F v v

theorem rt_fuel (F : Nat → Nat) (hF : ∀ v, F v ≤ v) : ∀ m x, x ≤ m → rt F m x = rt F x x := by
  intro m
  induction m using Nat.strongRecOn with
  | ind m ih =>
    intro x hx
    cases x with
    | zero =>
      cases m with
      | zero => rfl
      | succ m => unfold rt; rw [if_pos (by have := hF 0; omega)]
    | succ x =>
      cases m with
      | zero => omega
      | succ m =>
        unfold rt
        by_cases h : F (x + 1) = x + 1
        · rw [if_pos h, if_pos h]
        · rw [if_neg h, if_neg h]
          have h2 := hF (x + 1)
          rw [ih m (by omega) _ (by omega), ih x (by omega) _ (by omega)]

theorem root_fix {F : Nat → Nat} {v : Nat} (h : F v = v) : root F v = v := by
  unfold root
  cases v with
  | zero => rfl
  | succ v => unfold rt; rw [if_pos h]
theorem root_step {F : Nat → Nat} (hF : ∀ v, F v ≤ v) (v : Nat) : root F v = root F (F v) := by
  by_cases h : F v = v
  · rw [h]
  · have h2 := hF v
    unfold root
    cases v with
    | zero => omega
    | succ v =>
      rw [rt, if_neg h, rt_fuel F hF v _ (by omega)]
theorem root_le {F : Nat → Nat} (hF : ∀ v, F v ≤ v) (v : Nat) : root F v ≤ v := by
  induction v using Nat.strongRecOn with
  | ind v ih =>
    by_cases h : F v = v
    · rw [root_fix h]; exact Nat.le_refl _
    · have h2 := hF v
      rw [root_step hF]
      have := ih (F v) (by omega)
      omega
theorem root_root {F : Nat → Nat} (hF : ∀ v, F v ≤ v) (v : Nat) : F (root F v) = root F v := by
  induction v using Nat.strongRecOn with
  | ind v ih =>
    by_cases h : F v = v
    · rw [root_fix h]; exact h
    · have h2 := hF v
      rw [root_step hF]
      exact ih (F v) (by omega)

/-- Two parts joined. -/
def joinF (F : Nat → Nat) (a b : Nat) : Nat → Nat := fun v => if v = max (root F a) (root F b) then min (root F a) (root F b) else F v
theorem joinF_le {F : Nat → Nat} (hF : ∀ v, F v ≤ v) (a b : Nat) : ∀ v, joinF F a b v ≤ v := by
  intro v
  unfold joinF
  split
  · omega
  · exact hF v
/-- The forest of the first k edges. -/
def forestTo (g : G) : Nat → Nat → Nat
  | 0 => fun v => v
  | k + 1 => joinF (forestTo g k) (g.es[k]?.getD default).a.toNat (g.es[k]?.getD default).b.toNat
theorem forestTo_le (g : G) : ∀ k v, forestTo g k v ≤ v
  | 0, v => Nat.le_refl _
  | k + 1, v => joinF_le (forestTo_le g k) _ _ v

/-- What stands in the block of a forest. -/
def fArr (F : Nat → Nat) : Array Value := #[.int .i64 (F 0), .int .i64 (F 1), .int .i64 (F 2), .int .i64 (F 3), .int .i64 (F 4), .int .i64 (F 5), .int .i64 (F 6), .int .i64 (F 7), .int .i64 (F 8), .int .i64 (F 9), .int .i64 (F 10), .int .i64 (F 11)]
theorem fArr_get (F : Nat → Nat) (i : Nat) (h : i < 12) : (fArr F)[i]? = some (.int .i64 (F i)) := by
  unfold fArr
  rcases i with _|_|_|_|_|_|_|_|_|_|_|_|i <;> first | rfl | omega
theorem fArr_set (F : Nat → Nat) (i x : Nat) (h : i < 12) : (fArr F).setIfInBounds i (.int .i64 (x : Int)) = fArr (fun v => if v = i then x else F v) := by
  unfold fArr
  rcases i with _|_|_|_|_|_|_|_|_|_|_|_|i <;> first | rfl | omega

end Go.Proofs.Ytbjoblkigbphhaa
