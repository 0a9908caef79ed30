/-
  The reference's flow in memory; the sink of what drifts; contracts of the reference: Small, Small (divisors).
-/
import Derived.Test.YtbjoblkigbphhaaGreatR21c
import Derived.Test.YtbjoblkigbphhaaGreatP20
namespace Go.Proofs.YtbjoblkigbphhaaGreat
open Go.RowKit

section
variable {T0 : TypeId} {base : Nat} {w w' : World} {bx bl cl bt N : Nat} {wv : Value} {way : List Int} {most : Int} {L T : Nat → Int}
end

theorem dr_sink {g : G} (q N : Nat) (picks : List Int) : ∀ f i s r, drGo g q N picks f i s = some r → s.L q ≤ r.L q
  | 0, i, s, r, h => by
    unfold drGo chGo at h
    split at h
    · obtain rfl := Option.some.inj h; exact Int.le_refl _
    · cases h
  | f + 1, i, s, r, h => by
    unfold drGo chGo at h
    split at h
    · obtain rfl := Option.some.inj h; exact Int.le_refl _
    · rename_i hc
      have h1 := dr_sink q N picks f (i + 1) _ r h
      refine Int.le_trans ?_ h1
      generalize (pickAt picks i % (dCnt g q N s : Int)).toNat = j
      unfold dNxt
      by_cases hj : (waitN g q N s.L).length ≤ j
      · rw [if_pos hj]
        show s.L q ≤ (if q = (s.way[j - (waitN g q N s.L).length]?.getD 0).toNat then s.L (s.way[j - (waitN g q N s.L).length]?.getD 0).toNat + 1 else s.L q)
        split
        · rename_i e; rw [← e]; omega
        · exact Int.le_refl _
      · rw [if_neg hj]
        have hmem : (waitN g q N s.L)[j]?.getD 0 ∈ waitN g q N s.L := by rw [List.getElem?_eq_getElem (by omega)]; exact List.getElem_mem _
        obtain ⟨q1, q2, q3⟩ := waitTo_mem _ _ _ hmem
        show s.L q ≤ (if q = ((waitN g q N s.L)[j]?.getD 0).toNat then s.L q - valence g ((waitN g q N s.L)[j]?.getD 0).toNat else s.L q)
        split
        · rename_i e
          exfalso
          rw [← e] at q3
          unfold isUnst at q3
          simp at q3
        · exact Int.le_refl _

/-- Drifting, as the reference tells it. -/
theorem driftP_in {g : G} {q : Int} {ds picks : List Int} (h : givErr g q ds picks = 0) : driftP g q ds picks = match drGo g q g.n.toNat picks maxF 0 ⟨dOf ds, fun _ => 0, [], 0⟩ with
    | none => .inl 12
    | some s => if inB (s.L q.toNat) then .inr s else .inl 11 := by
  unfold driftP
  rw [if_neg (by simpa using h)]
  have hc := cfg_ok (giv_ok h).1
  obtain ⟨Q, rfl⟩ := Int.eq_ofNat_of_zero_le hc.2.1
  rw [Int.toNat_natCast]
  cases hs : drGo g Q g.n.toNat picks maxF 0 ⟨dOf ds, fun _ => 0, [], 0⟩ with
  | none => rfl
  | some s =>
    have h1 := dr_sink Q g.n.toNat picks _ _ _ _ hs
    have h2 : -1048576 ≤ dOf ds Q := by
      unfold dOf
      have hl : Q < ds.length := by have := hc.2.2.1; have := hc.2.2.2.1; omega
      rw [List.getElem?_eq_getElem hl]
      exact (hc.2.2.2.2.1 _ (List.getElem_mem hl)).1
    dsimp only at h1 ⊢
    by_cases h3 : 1048576 < s.L Q
    · rw [if_pos h3, if_neg]
      unfold inB; simp; omega
    · rw [if_neg h3, if_pos]
      unfold inB; simp; omega

def small17 (ds : List Int) : Bool := ds.all fun k => decide (-60 ≤ k) && decide (k ≤ 60)
theorem small17_step (ds : List Int) (k : Nat) (h : k < ds.length) : (ds.drop k).all (fun k => decide (-60 ≤ k) && decide (k ≤ 60)) = ((decide (-60 ≤ ds[k]?.getD 0) && decide (ds[k]?.getD 0 ≤ 60)) && (ds.drop (k + 1)).all (fun k => decide (-60 ≤ k) && decide (k ≤ 60))) := by
  rw [drop_step ds k h, List.all_cons]
  rfl

set_option maxRecDepth 100000 in
set_option maxHeartbeats 1000000 in
theorem r17_Small (ds : List Int) (dv : Value) (w : World) (hd : IntsR w dv ds) :
    Calls Tryz.prog 7 #[dv] w fun e w' => e = .returned (.bool (small17 ds)) ∧ w = w' := by
  obtain ⟨a, cap, rfl, hcap, hcm, hlen, hc⟩ := hd
  generalize hz : small17 ds = z
  have HZ : Hid ((ds.drop 0).all (fun k => decide (-60 ≤ k) && decide (k ≤ 60)) = z) := hz
  clear hz
  go_enter Tryz.func7, Tryz.ntmps7
  go_wp2
  go_loopw [3] (fun i wr => ∃ k : Nat, k ≤ ds.length ∧ i = .int .i64 k ∧ Hid ((ds.drop k).all (fun k => decide (-60 ≤ k) && decide (k ≤ 60)) = z) ∧ Hid (w = wr)) (fun i _ => ds.length - (intOf i).toNat)
  case atStart => exact ⟨0, Nat.zero_le _, rfl, HZ, rfl⟩
  case round =>
    obtain ⟨k, hk, rfl, HZ, HE⟩ := hrel
    obtain rfl := HE.out
    by_cases hlt : k < ds.length
    · obtain ⟨b', off', rfl, hb', hcs⟩ := hc.int (by omega)
      have c1 := hcs k hlt
      have hst := hid (small17_step ds k hlt)
      have hlt' : (k : Int) < (ds.length : Int) := by omega
      have hk0 : (0 : Int) ≤ (k : Int) := by omega
      clear hcs hc
      generalize ds[k]?.getD 0 = x at *
      by_cases h1 : x < -60
      · have hf : Hid (z = false) := by show _ = _; rw [← HZ.out, hst.out, show decide (-60 ≤ x) = false by simp; omega]; rfl
        clear hst
        go_wp2
        all_goals (go_ret; exact ⟨by rw [hf.out]; rfl, rfl⟩)
      · by_cases h2 : 60 < x
        · have hf : Hid (z = false) := by show _ = _; rw [← HZ.out, hst.out, show decide (x ≤ 60) = false by simp; omega, Bool.and_false]; rfl
          clear hst
          go_wp2
          all_goals (go_ret; exact ⟨by rw [hf.out]; rfl, rfl⟩)
        · have hn : Hid ((ds.drop (k + 1)).all (fun k => decide (-60 ≤ k) && decide (k ≤ 60)) = z) := by
            show _ = _
            rw [← HZ.out, hst.out, show decide (-60 ≤ x) = true by simp; omega, show decide (x ≤ 60) = true by simp; omega]; rfl
          clear hst
          go_wp2
          go_roundw
          case rel => exact ⟨k + 1, by omega, by go_num, hn, True.intro⟩
          case measure => simp [intOf]; omega
    · have hf : Hid (z = true) := by show _ = _; rw [← HZ.out, show k = ds.length by omega, List.drop_length]; rfl
      have hlt' : ¬ (k : Int) < (ds.length : Int) := by omega
      clear hc
      go_wp2
      go_ret
      exact ⟨by rw [hf.out]; rfl, rfl⟩

/-- Small, with a sink. -/
def small21 (g : G) (q : Int) (ds : List Int) : Bool := few18 g ds && (small17 ds || (cfgErr g q ds != 0))
end Go.Proofs.YtbjoblkigbphhaaGreat
