/-
  Plain laws: drifting fires what stabilizing fires, and has at least so many chips on their way at once.
-/
import Derived.Test.YtbjoblkigbphhaaGreatAb
import Derived.Test.YtbjoblkigbphhaaGreatP20
namespace Go.Proofs.YtbjoblkigbphhaaGreat
open Go.RowKit

def cntW (way : List Int) (u : Nat) : Int := (way.count (u : Int) : Nat)
theorem cntW_nn (way : List Int) (u : Nat) : 0 ≤ cntW way u := Int.natCast_nonneg _
theorem cnt_wayTo {g : G} (hg : Gok g) (v : Nat) (way : List Int) (u : Nat) : ∀ k, cntW (wayTo g v way k) u = cntW way u + if u < k then rowsF g v u else 0
  | 0 => by show cntW way u = _; simp
  | k + 1 => by
    have ih := cnt_wayTo hg v way u k
    have hb := rowsF_bd hg v k
    unfold cntW at *
    unfold wayTo
    rw [List.count_append, List.count_replicate, Int.natCast_add, ih]
    by_cases h : u = k
    · subst h
      have hz : (if ((u : Int) == (u : Int)) = true then (rowsF g v u).toNat else 0) = (rowsF g v u).toNat := if_pos (by simp)
      rw [hz, if_neg (show ¬ u < u by omega), if_pos (show u < u + 1 by omega)]
      omega
    · have hz : (if ((k : Int) == (u : Int)) = true then (rowsF g v k).toNat else 0) = 0 := if_neg (by simp; omega)
      rw [hz]
      by_cases h2 : u < k
      · rw [if_pos h2, if_pos (by omega)]; omega
      · rw [if_neg h2, if_neg (by omega)]; omega
theorem cnt_erase (way : List Int) (j : Nat) (hj : j < way.length) (u : Nat) : cntW (way.eraseIdx j) u = cntW way u - if way[j]?.getD 0 = (u : Int) then 1 else 0 := by
  have h1 : way.eraseIdx j = way.take j ++ way.drop (j + 1) := List.eraseIdx_eq_take_drop_succ way j
  have h2 : way = way.take j ++ (way[j]?.getD 0 :: way.drop (j + 1)) := by
    rw [List.getElem?_eq_getElem hj, Option.getD_some, ← List.drop_eq_getElem_cons hj, List.take_append_drop]
  have h3 : way.count (u : Int) = (way.take j).count (u : Int) + ((way.drop (j + 1)).count (u : Int) + if way[j]?.getD 0 == (u : Int) then 1 else 0) := by
    conv => lhs; rw [h2]
    rw [List.count_append, List.count_cons]
  unfold cntW
  rw [h1, List.count_append, h3]
  by_cases h : way[j]?.getD 0 = (u : Int)
  · simp [h]; omega
  · simp [h]
theorem wayTo_sum {g : G} (hg : Gok g) (v : Nat) (way : List Int) : ∀ k, ((wayTo g v way k).length : Int) = way.length + sumTo (rowsF g v) k
  | 0 => by show (way.length : Int) = way.length + 0; omega
  | k + 1 => by
    have ih := wayTo_sum hg v way k
    have hb := rowsF_bd hg v k
    show ((wayTo g v way k ++ List.replicate (rowsF g v k).toNat (k : Int)).length : Int) = way.length + (sumTo (rowsF g v) k + rowsF g v k)
    rw [List.length_append, List.length_replicate]
    omega
theorem val_rows (g : G) (v N : Nat) (hN : N = g.n.toNat) : valence g v = sumTo (rowsF g v) N := by
  subst hN
  unfold valence
  refine sumTo_congr _ _ _ fun k _ => ?_
  unfold valTerm rowsF
  by_cases h : v = k
  · subst h; simp
  · rw [if_pos (by omega), if_pos h]
    exact btw_comm g k v

/-- What is there and on its way is what the script has left; and what fired was on its way. -/
structure BalD (g : G) (N : Nat) (d : Nat → Int) (s : Dr) : Prop where
  bal : ∀ u, u < N → s.L u + cntW s.way u = lapD g N d s.T u
  nn : ∀ u, u < N → 0 ≤ s.T u
  most : ∀ u, u < N → 0 < s.T u → valence g u ≤ s.most
theorem balD_start (g : G) (N : Nat) (d : Nat → Int) : BalD g N d ⟨d, fun _ => 0, [], 0⟩ := by
  have h := bal_start g N d
  refine ⟨fun u hu => ?_, h.2, fun u _ h => ?_⟩
  · have := h.1 u hu
    show d u + cntW [] u = _
    have e : cntW [] u = 0 := rfl
    rw [e, Int.add_zero]
    exact this
  · exact absurd h (by show ¬ (0 : Int) < 0; omega)
theorem balD_land {g : G} {N : Nat} {d : Nat → Int} {s : Dr} (h : BalD g N d s) (hw : ∀ v ∈ s.way, 0 ≤ v ∧ v < N) {j : Nat} (hj : j < s.way.length) : BalD g N d (dLand s j) := by
  refine ⟨fun u hu => ?_, h.nn, h.most⟩
  have h1 := h.bal u hu
  have hm : s.way[j]?.getD 0 ∈ s.way := by rw [List.getElem?_eq_getElem hj]; exact List.getElem_mem hj
  have h2 := hw _ hm
  have h3 := cnt_erase s.way j hj u
  show (if u = (s.way[j]?.getD 0).toNat then s.L (s.way[j]?.getD 0).toNat + 1 else s.L u) + cntW (s.way.eraseIdx j) u = lapD g N d s.T u
  rw [h3]
  generalize s.way[j]?.getD 0 = x at *
  obtain ⟨v, rfl⟩ := Int.eq_ofNat_of_zero_le h2.1
  rw [Int.toNat_natCast]
  by_cases e : u = v
  · subst e; simp; omega
  · rw [if_neg e, if_neg (by omega)]; omega
theorem balD_fire {g : G} (hg : Gok g) {N : Nat} (hN : N = g.n.toNat) {d : Nat → Int} {s : Dr} (h : BalD g N d s) {v : Nat} (hv : v < N) : BalD g N d (dFire g N v s) := by
  have hT : (dFire g N v s).T = addT s.T v 1 := by funext u; show (if u = v then s.T u + 1 else s.T u) = _; rfl
  refine ⟨fun u hu => ?_, fun u hu => ?_, fun u hu hp => ?_⟩
  · rw [hT, lapD_fire g N d s.T v 1 hv u, ← h.bal u hu]
    show (if u = v then s.L u - valence g v else s.L u) + cntW (wayTo g v s.way N) u = _
    rw [cnt_wayTo hg v s.way u N, if_pos hu]
    split <;> omega
  · rw [hT]
    have := h.nn u hu
    unfold addT
    split <;> omega
  · show valence g u ≤ max s.most ((wayTo g v s.way N).length : Int)
    rw [hT] at hp
    by_cases e : u = v
    · subst e
      have := wayTo_sum hg u s.way N
      rw [← val_rows g u N hN] at this
      omega
    · unfold addT at hp
      rw [if_neg e] at hp
      have := h.most u hu hp
      omega

theorem dNxt_bal {g : G} (hg : Gok g) {q : Int} {N : Nat} (hN : N = g.n.toNat) {d : Nat → Int} {s : Dr} {k : Nat} (h : BalD g N d s) (hok : okD N k s) (hl : ∀ τ, Stz g q N d τ → ∀ u, u < N → s.T u ≤ τ u) {j : Nat} (hj : j < dCnt g q N s) (hN12 : N ≤ 12) :
    BalD g N d (dNxt g q N s j) ∧ okD N (k + 1) (dNxt g q N s j) ∧ ∀ τ, Stz g q N d τ → ∀ u, u < N → (dNxt g q N s j).T u ≤ τ u := by
  unfold dNxt
  by_cases hge : (waitN g q N s.L).length ≤ j
  · rw [if_pos hge]
    unfold dCnt at hj
    exact ⟨balD_land h hok.2.2.2.1 (by omega), okD_land hok _, hl⟩
  · rw [if_neg hge]
    have hlt : j < (waitN g q N s.L).length := by omega
    have hmem : (waitN g q N s.L)[j]?.getD 0 ∈ waitN g q N s.L := by rw [List.getElem?_eq_getElem hlt]; exact List.getElem_mem hlt
    obtain ⟨q1, q2, q3⟩ := waitTo_mem _ _ _ hmem
    generalize (waitN g q N s.L)[j]?.getD 0 = x at *
    obtain ⟨v, rfl⟩ := Int.eq_ofNat_of_zero_le q1
    rw [Int.toNat_natCast] at *
    unfold isUnst at q3
    simp at q3
    refine ⟨balD_fire hg hN h (by omega), okD_fire hg hN12 hok v, fun τ ht u hu => ?_⟩
    have h1 := h.bal v (by omega)
    have h2 := cntW_nn s.way v
    have h5 := least_one hg (d := d) (L := s.L) (T := s.T) (v := v) (k := 1) (by omega) (by omega) (hl τ ht) (ht.1 v (by omega) q3.1)
    have := hl τ ht u hu
    show (if u = v then s.T u + 1 else s.T u) ≤ τ u
    split
    · rename_i e; subst e; exact h5
    · exact this

theorem drGo_least {g : G} (hg : Gok g) (q : Int) (N : Nat) (hN : N = g.n.toNat) (hN12 : N ≤ 12) (d : Nat → Int) (picks : List Int) : ∀ (f i k : Nat) (s : Dr), BalD g N d s → okD N k s → (∀ τ, Stz g q N d τ → ∀ u, u < N → s.T u ≤ τ u) →
    ∀ r, drGo g q N picks f i s = some r → BalD g N d r ∧ (∀ u, u < N → r.L u = lapD g N d r.T u) ∧ Stz g q N d r.T ∧ ∀ τ, Stz g q N d τ → ∀ u, u < N → r.T u ≤ τ u := by
  have fin : ∀ s : Dr, BalD g N d s → (∀ τ, Stz g q N d τ → ∀ u, u < N → s.T u ≤ τ u) → dCnt g q N s = 0 → BalD g N d s ∧ (∀ u, u < N → s.L u = lapD g N d s.T u) ∧ Stz g q N d s.T ∧ ∀ τ, Stz g q N d τ → ∀ u, u < N → s.T u ≤ τ u := by
    intro s hb hl hc
    unfold dCnt at hc
    have h1 : waitN g q N s.L = [] := List.eq_nil_of_length_eq_zero (by omega)
    have h2 : s.way = [] := List.eq_nil_of_length_eq_zero (by omega)
    have h3 : ∀ u, u < N → s.L u = lapD g N d s.T u := fun u hu => by
      rw [← hb.bal u hu, h2]
      show s.L u = s.L u + 0
      omega
    exact ⟨hb, h3, stz_end (s := ⟨s.L, s.T⟩) ⟨h3, hb.nn⟩ h1, hl⟩
  intro f
  induction f with
  | zero =>
    intro i k s hb hok hl r hr
    unfold drGo chGo at hr
    split at hr
    · rename_i hc
      obtain rfl := Option.some.inj hr
      exact fin s hb hl hc
    · cases hr
  | succ f ih =>
    intro i k s hb hok hl r hr
    unfold drGo chGo at hr
    split at hr
    · rename_i hc
      obtain rfl := Option.some.inj hr
      exact fin s hb hl hc
    · rename_i hc
      have h1 := Int.emod_lt_of_pos (pickAt picks i) (show (0 : Int) < ((dCnt g q N s : Nat) : Int) by omega)
      have h2 := Int.emod_nonneg (pickAt picks i) (show ((dCnt g q N s : Nat) : Int) ≠ 0 by omega)
      obtain ⟨a, b, c⟩ := dNxt_bal hg hN hb hok hl (j := (pickAt picks i % (dCnt g q N s : Int)).toNat) (by omega) hN12
      exact ih (i + 1) (k + 1) _ a b c r hr

end Go.Proofs.YtbjoblkigbphhaaGreat
