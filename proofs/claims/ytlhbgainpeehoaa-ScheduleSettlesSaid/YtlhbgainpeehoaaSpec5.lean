/-
  Plain definitions and laws: a divisor that a script has moved; the clone of a row.
-/
import Derived.Test.YtlhbgainpeehoaaSpec4
namespace Go.Proofs.Ytlhbgainpeehoaa
open Go.RowKit

theorem CellsAt.news {w : World} {b off : Nat} {cs : List Value} (h : CellsAt w (some ⟨b, off, none⟩) cs) (j : Nat) (u : Value) (hj : cs[j]? = some u) : w.cell? ((⟨b, off, none⟩ : Addr).add j) = some u := by
  rcases h with h | ⟨b', off', e, hl, hc⟩
  · subst h; simp at hj
  · simp only [Option.some.injEq, Addr.mk.injEq, and_true] at e
    obtain ⟨rfl, rfl⟩ := e
    have hlt : j < cs.length := (List.getElem?_eq_some_iff.1 hj).1
    have e2 : (⟨b, off, none⟩ : Addr).add j = ⟨b, off + j, none⟩ := by unfold Addr.add; split <;> simp_all
    rw [e2, hc j hlt]; exact hj

/-- append([]T{}, xs...): a new row with the same elements. -/
theorem wpList_clone {P : Program} (wr : World) {ops : Array Oper} {rest : List Oper} {o : Oper} {a : Act} {Q : Exit → Act → World → Prop}
    (hgd : o.guard = none) (s xop : Operand) (t : TypeId) (ho : o.op = .call { callee := .builtin .append, args := #[s, xop], argTypes := #[t, t] })
    (e : TypeId) (ht : P.underlying t = some (.slice e)) (hinfo : (P.info? e).map (fun i => (i.zero, i.size, i.bytes)) = some (some (.int .i64 0), 1, 8))
    (B : Nat) (hBs : B = wr.heap.size) (b off cap : Nat) (xs : List Int) (hxs : CellsAt wr (some ⟨b, off, none⟩) (xs.map (Value.int .i64))) (hlen : xs.length * 8 ≤ 140737488355328)
    (hs : a.eval s = .slice (some ⟨B, 0, none⟩) 0 0) (hx : a.eval xop = .slice (some ⟨b, off, none⟩) xs.length cap)
    (h : ∀ v' w', w'.ownsRow B e 1 v' xs.length (xs.map (Value.int .i64)) → Below wr.heap.size wr w' → (v' = .slice none 0 0 ↔ False) → wpList P ops Q rest (a.put o.dst v') w') :
    wpList P ops Q (o :: rest) a (wr.alloc (.cells #[] e)) := by
  obtain ⟨i, hi, hz, hsz, hby⟩ := info_parts hinfo
  subst hBs
  have hown := World.ownsRow_made (base := wr.heap.size) (e := e) (size := 1) wr #[] 0 (Nat.le_refl _) (Nat.zero_le _) rfl
  have hB : Below wr.heap.size wr (wr.alloc (.cells #[] e)) := (Below.refl _ _).alloc (Nat.le_refl _) _
  refine wpList_append_own _ hgd s xop t ho wr.heap.size e i (.int .i64 0) 1 8 ht hi hz hsz hby rfl (by decide) _ 0 [] hs hown ⟨b, off, none⟩ xs.length cap (xs.map (Value.int .i64)) hx (by simp)
    (fun j u hj => (hxs.below hB).news j u hj) (ints_oneCell' xs) (by unfold maxLen; omega) (by omega) (by simp) ?_
  intro v' w' hown' hgr hnil
  refine h v' w' (by simpa using hown') ?_ (by simpa using hnil)
  exact hB.grown hgr (by simp) (fun k hk => by simp [Value.ownBlock] at hk; omega)

theorem owns_some {w : World} {base : Nat} {e : TypeId} {size : Nat} {v : Value} {n : Nat} {xs : List Value} (h : w.ownsRow base e size v n xs) (hn : 0 < n) : ∃ g cap, v = .slice (some ⟨g, 0, none⟩) n cap ∧ base ≤ g ∧ g < w.heap.size := by
  rcases h.2 with ⟨rfl, rfl⟩ | ⟨g, cap, cur, rfl, hb, _⟩
  · omega
  · exact ⟨g, cap, rfl, hb, (owns_lt h).2⟩
theorem vecOf_zero (n : Nat) : List.replicate n (0 : Int) = vecOf n (fun _ => 0) := by apply List.ext_getElem <;> simp [vecOf]

/-- The script that fires v k times. -/
def oneAt (v k : Int) (u : Nat) : Int := if (u : Int) = v then k else 0
/-- What w gives v, or v gives w. -/
def mv (g : G) (s : Nat → Int) (v w : Nat) : Int := if v ≠ w then btw g v w * (s w - s v) else 0
def movedV (g : G) (d s : Nat → Int) (v : Nat) : Int := d v + sumTo (mv g s v) g.n.toNat
/-- The row when the vertices below v, and at v those below w, are done. -/
def mvSt (g : G) (d s : Nat → Int) (v w u : Nat) : Int := if u < v then movedV g d s u else if u = v then d u + sumTo (mv g s u) w else d u

theorem mvSt_start (g : G) (d s : Nat → Int) (n : Nat) : vecOf n (mvSt g d s 0 0) = vecOf n d :=
  vecOf_congr _ _ _ fun k _ => by unfold mvSt; simp [sumTo]
theorem mvSt_next (g : G) (d s : Nat → Int) (n v : Nat) : vecOf n (mvSt g d s v g.n.toNat) = vecOf n (mvSt g d s (v + 1) 0) :=
  vecOf_congr _ _ _ fun k _ => by
    unfold mvSt movedV
    by_cases h1 : k < v
    · rw [if_pos h1, if_pos (by omega)]
    · rw [if_neg h1]
      by_cases h2 : k = v
      · subst h2; rw [if_pos rfl, if_pos (by omega)]
      · rw [if_neg h2, if_neg (by omega)]
        by_cases h3 : k = v + 1
        · subst h3; simp [sumTo]
        · rw [if_neg h3]
theorem mvSt_end (g : G) (d s : Nat → Int) (n v : Nat) (h : n ≤ v) : vecOf n (mvSt g d s v 0) = vecOf n (movedV g d s) :=
  vecOf_congr _ _ _ fun k hk => by unfold mvSt; rw [if_pos (by omega)]
theorem mvSt_step (g : G) (d s : Nat → Int) (n v w : Nat) : vecOf n (mvSt g d s v (w + 1)) = (vecOf n (mvSt g d s v w)).set v (mvSt g d s v w v + mv g s v w) := by
  rw [vecOf_set]
  refine vecOf_congr _ _ _ fun k hk => ?_
  unfold mvSt
  by_cases h1 : k < v
  · rw [if_pos h1, if_neg (by omega), if_pos h1]
  · rw [if_neg h1]
    by_cases h2 : k = v
    · subst h2; simp [sumTo]; omega
    · simp [h1, h2]
theorem mvSt_same (g : G) (d s : Nat → Int) (n v w : Nat) (h : v = w) : vecOf n (mvSt g d s v (w + 1)) = vecOf n (mvSt g d s v w) := by
  refine vecOf_congr _ _ _ fun k hk => ?_
  unfold mvSt
  by_cases h1 : k < v
  · rw [if_pos h1, if_pos h1]
  · rw [if_neg h1, if_neg h1]
    by_cases h2 : k = v
    · subst h2; subst h; simp [sumTo, mv]
    · simp [h2]

theorem mul_bd (x y c : Int) (hx0 : 0 ≤ x) (hx : x ≤ 50) (hy0 : -c ≤ y) (hy : y ≤ c) : -(50 * c) ≤ x * y ∧ x * y ≤ 50 * c := by
  have hc : 0 ≤ c := by omega
  constructor
  · have h1 : x * -c ≤ x * y := Int.mul_le_mul_of_nonneg_left hy0 hx0
    have h2 : x * c ≤ 50 * c := Int.mul_le_mul_of_nonneg_right hx hc
    rw [Int.mul_neg] at h1; omega
  · have h1 : x * y ≤ x * c := Int.mul_le_mul_of_nonneg_left hy hx0
    have h2 : x * c ≤ 50 * c := Int.mul_le_mul_of_nonneg_right hx hc
    omega

theorem sumTo_bd2 (f : Nat → Int) (c : Int) (h : ∀ k, -c ≤ f k ∧ f k ≤ c) : ∀ n : Nat, -(n * c) ≤ sumTo f n ∧ sumTo f n ≤ n * c
  | 0 => by simp [sumTo]
  | n + 1 => by
    have h1 := sumTo_bd2 f c h n
    have h2 := h n
    unfold sumTo
    have : ((n + 1 : Nat) : Int) * c = n * c + c := by rw [Int.natCast_succ, Int.add_mul]; simp
    omega

/-- All values lie between -c and c. -/
def bdd (f : Nat → Int) (c : Int) : Prop := ∀ k, -c ≤ f k ∧ f k ≤ c

theorem mv_bd {g : G} (hg : Gok g) {s : Nat → Int} (hs : bdd s 1048576) (v w : Nat) : -104857600 ≤ mv g s v w ∧ mv g s v w ≤ 104857600 := by
  have h1 := hg.btw_bd v w
  have h2 := hs w
  have h3 := hs v
  have := mul_bd (btw g v w) (s w - s v) 2097152 h1.1 h1.2 (by omega) (by omega)
  unfold mv
  split <;> omega
theorem mvSum_bd {g : G} (hg : Gok g) {s : Nat → Int} (hs : bdd s 1048576) (v k : Nat) (hk : k ≤ 12) : -1258291200 ≤ sumTo (mv g s v) k ∧ sumTo (mv g s v) k ≤ 1258291200 := by
  have h := sumTo_bd2 (mv g s v) 104857600 (fun w => mv_bd hg hs v w) k
  omega

end Go.Proofs.Ytlhbgainpeehoaa
