/-
  Contract of the program's schedule: choose, over a sequential state.
-/
import Derived.Test.YtbjoblkigbphhaaGreatP7
namespace Go.Proofs.YtbjoblkigbphhaaGreat
open Go.RowKit

/-- Choosing with so many rounds left, from the i-th on. -/
def chGo {σ : Type} (cnt : σ → Nat) (nxt : σ → Nat → σ) (picks : List Int) : Nat → Nat → σ → Option σ
  | 0, _, s => if cnt s = 0 then some s else none
  | f + 1, i, s => if cnt s = 0 then some s else chGo cnt nxt picks f (i + 1) (nxt s (pickAt picks i % (cnt s : Int)).toNat)
theorem chGo_done {σ : Type} (cnt : σ → Nat) (nxt : σ → Nat → σ) (picks : List Int) (f i : Nat) (s : σ) (h : cnt s = 0) : chGo cnt nxt picks f i s = some s := by
  cases f <;> simp [chGo, h]
theorem chGo_over {σ : Type} (cnt : σ → Nat) (nxt : σ → Nat → σ) (picks : List Int) (i : Nat) (s : σ) (h : cnt s ≠ 0) : chGo cnt nxt picks 0 i s = none := by simp [chGo, h]
theorem chGo_step {σ : Type} (cnt : σ → Nat) (nxt : σ → Nat → σ) (picks : List Int) (i : Nat) (s : σ) (h : cnt s ≠ 0) (hi : i < maxF) :
    chGo cnt nxt picks (maxF - i) i s = chGo cnt nxt picks (maxF - (i + 1)) (i + 1) (nxt s (pickAt picks i % (cnt s : Int)).toNat) := by
  obtain ⟨f, hf⟩ : ∃ f, maxF - i = f + 1 := ⟨maxF - i - 1, by omega⟩
  rw [hf, show maxF - (i + 1) = f by omega]
  simp [chGo, h]

/-- What choosing hands back, and what is there behind it. -/
def RetCh {σ : Type} (Inv : σ → World → Prop) (r : Option σ) (e : Ending) (w' : World) : Prop :=
  match r with
  | none => e = .returned (.bool false) ∧ ∃ s, Inv s w'
  | some s => e = .returned (.bool true) ∧ Inv s w'

theorem nil_take (a : Addr) (w : World) : (nilAhead 296 77 (.pointer (some a)) "sandpile/schedule.take").run Tryz.prog w = .ok (some false) w := by kernel_rfl
theorem method_take (a : Addr) (w : World) : (method 296 77 (.pointer (some a)) "sandpile/schedule.take").run Tryz.prog w = .ok (125, .pointer (some a)) w := by kernel_rfl
theorem method_count (a : Addr) (w : World) : (method 296 77 (.pointer (some a)) "sandpile/schedule.count").run Tryz.prog w = .ok (124, .pointer (some a)) w := by kernel_rfl

set_option maxRecDepth 100000 in
set_option maxHeartbeats 2000000 in
theorem p_choose {σ : Type} (cnt : σ → Nat) (nxt : σ → Nat → σ) (Inv InvR : Nat → σ → World → Prop) (b : Nat) (picks : List Int) (pv : Value) (W0 : World) (hp : IntsR W0 pv picks) (hpl : 0 < picks.length) (hpp : ∀ k ∈ picks, 0 ≤ k)
    (hbel : ∀ k s w, InvR k s w → Below W0.heap.size W0 w)
    (hcnt : ∀ k s w, k ≤ maxF → Inv k s w → cnt s ≤ 1000000000) (hdrew : ∀ k s w, InvR k s w → InvR k s w.drew)
    (hcount : ∀ k s w, k ≤ maxF → Inv k s w → Calls Tryz.prog 124 #[.pointer (some ⟨b, 0, none⟩)] w fun e w' => e = .returned (.int .i64 (cnt s)) ∧ InvR k s w')
    (htake : ∀ k s w (i : Nat), k < maxF → InvR k s w → i < cnt s → Calls Tryz.prog 125 #[.pointer (some ⟨b, 0, none⟩), .int .i64 i] w fun e w' => e = .returned (.tuple #[]) ∧ Inv (k + 1) (nxt s i) w')
    (s0 : σ) (w : World) (hI : Inv 0 s0 w) :
    Calls Tryz.prog 42 #[.iface 77 (.pointer (some ⟨b, 0, none⟩)), pv] w (RetCh (fun s w' => ∃ k, InvR k s w') (chGo cnt nxt picks maxF 0 s0)) := by
  have hmf : ∀ (fn : Fn) (first cap : Array Value) (w : World), (Instr.makeFunc fn first cap).run Tryz.prog w = .ok (.func fn first cap) w := fun _ _ _ _ => rfl
  have hm1 := method_count
  have hm2 := method_take
  have hm3 := nil_take
  obtain ⟨pa, pcap, rfl, hcap, hcm, hlen, hc⟩ := hp
  obtain ⟨b', off', rfl, hb', hcs⟩ := hc.int hpl
  generalize hz : chGo cnt nxt picks maxF 0 s0 = z
  have HZ := hid hz
  have HC := hid hcount
  have HT := hid htake
  have HI := hid hI
  have HB := hid hbel
  have HP := hid hpp
  have HN := hid hcnt
  have HDR := hid hdrew
  have HCS := hid hcs
  have hmq : Hid ((maxF : Int) = 1048576) := maxF_eq
  clear hdrew hz hcount htake hI hbel hpp hcs hc hcnt
  go_enter Tryz.func42, Tryz.ntmps42
  go_wp2
  go_loopw [5] (fun i wr => ∃ (k : Nat) (s : σ), k ≤ maxF ∧ i = .int .i64 k ∧ Hid (Inv k s wr) ∧ Hid (chGo cnt nxt picks (maxF - k) k s = z)) (fun i _ => maxF - (intOf i).toNat)
  case atStart => exact ⟨0, s0, Nat.zero_le _, rfl, HI, HZ⟩
  case round =>
    obtain ⟨k, s, hk, rfl, HI, HZ⟩ := hrel
    have hC := hid (HC.out k s wr hk HI.out)
    have hcb := HN.out k s wr hk HI.out
    by_cases h0 : cnt s = 0
    · have hz2 := hid (HZ.out.symm.trans (chGo_done cnt nxt picks (maxF - k) k s h0))
      generalize cnt s = n at *
      subst h0
      go_wp2_with (go_at_call 124; refine hC.out.mono ?_; rintro e w1 ⟨rfl, hI1⟩; have HI1 := hid hI1; clear hI1)
      go_ret
      rw [hz2.out]
      exact ⟨rfl, k, HI1.out⟩
    · by_cases hkm : k = maxF
      · have hz2 : Hid (z = none) := HZ.out.symm.trans (by rw [hkm, Nat.sub_self]; exact chGo_over cnt nxt picks maxF s h0)
        have hkb : ((k : Int) == 1048576) = true := by rw [hkm, hmq.out]; decide
        have hnb : (((cnt s : Nat) : Int) == 0) = false := by rw [beq_eq_false_iff_ne]; omega
        generalize cnt s = n at *
        clear hkm
        go_wp2_with (go_at_call 124; refine hC.out.mono ?_; rintro e w1 ⟨rfl, hI1⟩; have HI1 := hid hI1; clear hI1)
        go_ret
        rw [hz2.out]
        exact ⟨rfl, s, k, HI1.out⟩
      · have hkm' : k < maxF := by omega
        have hz2 := hid (HZ.out.symm.trans (chGo_step cnt nxt picks k s h0 hkm'))
        have hkb : ((k : Int) == 1048576) = false := by have := hmq.out; rw [beq_eq_false_iff_ne]; omega
        have hk20 : (k : Int) < 1048576 := by have := hmq.out; omega
        have hkl : k % picks.length < picks.length := Nat.mod_lt _ hpl
        have hpk := pickAt_nn picks HP.out k
        have hd : ∀ w1, InvR k s w1 → w1.cell? ⟨b', off' + k % picks.length, none⟩ = some (.int .i64 (pickAt picks k)) := fun w1 h => ((HB.out k s w1 h).cell (p := ⟨b', off' + k % picks.length, none⟩) hb').trans (HCS.out _ hkl)
        have HD := hid hd
        have hmod1 := Int.emod_lt_of_pos (pickAt picks k) (show (0 : Int) < ((cnt s : Nat) : Int) by omega)
        have hmod2 := Int.emod_nonneg (pickAt picks k) (show ((cnt s : Nat) : Int) ≠ 0 by omega)
        have hT2 : Hid (∀ w1, InvR k s w1 → Calls Tryz.prog 125 #[.pointer (some ⟨b, 0, none⟩), .int .i64 (pickAt picks k % ((cnt s : Nat) : Int))] w1 fun e w' => e = .returned (.tuple #[]) ∧ Inv (k + 1) (nxt s (pickAt picks k % ((cnt s : Nat) : Int)).toNat) w') := fun w1 h => by
          have := HT.out k s w1 (pickAt picks k % ((cnt s : Nat) : Int)).toNat hkm' h (by omega)
          rw [Int.toNat_of_nonneg hmod2] at this
          exact this
        have hnb : (((cnt s : Nat) : Int) == 0) = false := by rw [beq_eq_false_iff_ne]; omega
        have hn0 : 0 < cnt s := by omega
        generalize pickAt picks k = p at *
        generalize hsn : nxt s (p % ((cnt s : Nat) : Int)).toNat = s' at *
        generalize cnt s = n at *
        have hpne : ¬ picks = [] := by rintro rfl; simp at hpl
        have hmd : (k : Int).tmod (picks.length : Int) = ((k % picks.length : Nat) : Int) := (Int.ofNat_tmod k picks.length).symm
        have hpm : p.tmod (n : Int) = p % (n : Int) := Int.tmod_eq_emod_of_nonneg hpk
        have hn00 : ¬ n = 0 := by omega
        have hkl1 : ((k % picks.length : Nat) : Int) < (picks.length : Int) := by omega
        have hkl0 : (0 : Int) ≤ ((k % picks.length : Nat) : Int) := by omega
        generalize k % picks.length = kl at *
        clear hd hsn h0 hkm
        go_wp2_with (go_at_call 124; refine hC.out.mono ?_; rintro e w1 ⟨rfl, hI1⟩; have d1 := HD.out w1 hI1; have HI1 := hid hI1; clear hI1)
        let S : World → Prop := fun w' => w'.cell? ⟨b', off' + kl, none⟩ = some (.int .i64 p)
        (refine wp_region_text 13 [0,1,2,3,4,5,6,7,8,9,10,11,12] S (by kernel_rfl) (by kernel_rfl) (by intro _ _ d _ _ h; cases d <;> exact h) ?hS ?_; rotate_left; simp only [List.map_cons, List.map_nil, List.getD_cons_zero, List.getD_cons_succ, List.drop_succ_cons, List.drop_zero])
        case hS => exact d1
        (repeat ((refine' wpSeq_take rfl _ (by rfl) ?_ ?_; rotate_left; focus (intro w' hS; (try dsimp only at hS); have s1 : w'.cell? ⟨b', off' + kl, none⟩ = some (.int .i64 p) := hS; go_simp; (first | done | with_reducible rfl)); (try simp only [Act.put, List.setIfInBounds_toArray, List.set_cons_zero, List.set_cons_succ])); (try simp only [Act.put, List.setIfInBounds_toArray, List.set_cons_zero, List.set_cons_succ])))
        refine wpSeq_nil ?_
        clear S
        go_wp2_with (go_at_call 125; refine (hT2.out w1.drew (HDR.out _ _ _ HI1.out)).mono ?_; rintro e w2 ⟨rfl, hI2⟩; have HI2 := hid hI2; clear hI2)
        go_roundw
        case rel => exact ⟨k + 1, s', by omega, by go_num, HI2, hid hz2.out.symm⟩
        case measure => simp [intOf]; omega

end Go.Proofs.YtbjoblkigbphhaaGreat
