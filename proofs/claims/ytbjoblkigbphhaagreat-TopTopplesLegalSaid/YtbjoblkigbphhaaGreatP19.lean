/-
  Contracts of the program's schedule: choose over a state that drifts, Drift.
-/
import Derived.Test.YtbjoblkigbphhaaGreatP17
namespace Go.Proofs.YtbjoblkigbphhaaGreat
open Go.RowKit

/-- A state that drifts. -/
structure Dr where
  L : Nat → Int
  T : Nat → Int
  way : List Int
  most : Int
def dCnt (g : G) (q : Int) (N : Nat) (s : Dr) : Nat := (waitN g q N s.L).length + s.way.length
def dFire (g : G) (N x : Nat) (s : Dr) : Dr := ⟨fun u => if u = x then s.L u - valence g x else s.L u, fun u => if u = x then s.T u + 1 else s.T u, wayTo g x s.way N, max s.most ((wayTo g x s.way N).length : Int)⟩
def dLand (s : Dr) (j : Nat) : Dr := ⟨fun u => if u = (s.way[j]?.getD 0).toNat then s.L (s.way[j]?.getD 0).toNat + 1 else s.L u, s.T, s.way.eraseIdx j, s.most⟩
def dNxt (g : G) (q : Int) (N : Nat) (s : Dr) (i : Nat) : Dr :=
  if (waitN g q N s.L).length ≤ i then dLand s (i - (waitN g q N s.L).length) else dFire g N ((waitN g q N s.L)[i]?.getD 0).toNat s
/-- All is within bounds after k rounds. -/
def okD (N : Nat) (k : Nat) (s : Dr) : Prop :=
  (∀ u, u < N → -(1048576 + 700 * k) ≤ s.L u ∧ s.L u ≤ 1048576 + 700 * k) ∧ (∀ u, u < N → 0 ≤ s.T u ∧ s.T u ≤ k) ∧ s.way.length ≤ 700 * k ∧ (∀ v ∈ s.way, 0 ≤ v ∧ v < N) ∧ 0 ≤ s.most ∧ s.most ≤ 700 * k

theorem wayTo_mem {g : G} {v : Nat} {way : List Int} : ∀ u, ∀ y ∈ wayTo g v way u, y ∈ way ∨ (0 ≤ y ∧ y < u)
  | 0, y, hy => .inl hy
  | u + 1, y, hy => by
    rcases List.mem_append.1 hy with h | h
    · rcases wayTo_mem u y h with h | h
      · exact .inl h
      · exact .inr (by omega)
    · obtain rfl := List.eq_of_mem_replicate h
      exact .inr (by omega)
theorem okD_fire {g : G} (hg : Gok g) {N k : Nat} {s : Dr} (hN : N ≤ 12) (h : okD N k s) (x : Nat) : okD N (k + 1) (dFire g N x s) := by
  obtain ⟨h1, h2, h3, h4, h5, h6⟩ := h
  have hw := wayTo_len hg x s.way N
  have hv := val_bd hg x
  refine ⟨fun u hu => ?_, fun u hu => ?_, ?_, fun v hv => ?_, ?_, ?_⟩
  · have := h1 u hu
    show _ ≤ (if u = x then s.L u - valence g x else s.L u) ∧ (if u = x then s.L u - valence g x else s.L u) ≤ _
    split <;> omega
  · have := h2 u hu
    show _ ≤ (if u = x then s.T u + 1 else s.T u) ∧ (if u = x then s.T u + 1 else s.T u) ≤ _
    split <;> omega
  · show (wayTo g x s.way N).length ≤ _
    omega
  · rcases wayTo_mem N v hv with h | h
    · exact h4 v h
    · exact h
  · show 0 ≤ max s.most ((wayTo g x s.way N).length : Int); omega
  · show max s.most ((wayTo g x s.way N).length : Int) ≤ _; omega
theorem okD_land {N k : Nat} {s : Dr} (h : okD N k s) (j : Nat) : okD N (k + 1) (dLand s j) := by
  obtain ⟨h1, h2, h3, h4, h5, h6⟩ := h
  refine ⟨fun u hu => ?_, fun u hu => ?_, ?_, fun v hv => ?_, h5, ?_⟩
  · have := h1 u hu
    show _ ≤ (if u = (s.way[j]?.getD 0).toNat then s.L (s.way[j]?.getD 0).toNat + 1 else s.L u) ∧ (if u = (s.way[j]?.getD 0).toNat then s.L (s.way[j]?.getD 0).toNat + 1 else s.L u) ≤ _
    split
    · rename_i e; rw [← e]; omega
    · omega
  · have := h2 u hu; show 0 ≤ s.T u ∧ s.T u ≤ _; omega
  · show (s.way.eraseIdx j).length ≤ _
    have := List.length_eraseIdx_le s.way j; omega
  · exact h4 v (List.mem_of_mem_eraseIdx hv)
  · show s.most ≤ _; omega

section
variable (f : Fr)
def dInv (T0 : TypeId) (k : Nat) (s : Dr) (w : World) : Prop := (∃ rv wv, DrI T0 f w rv wv s.way s.most s.L s.T) ∧ okD f.N k s
def dInvR (T0 : TypeId) (k : Nat) (s : Dr) (w : World) : Prop := (∃ rv wv, DrI T0 f w rv wv s.way s.most s.L s.T ∧ w.ownsRow f.W0.heap.size T0 1 rv (waitN f.g f.q f.N s.L).length ((waitN f.g f.q f.N s.L).map (Value.int .i64))) ∧ okD f.N k s
end

theorem dr_count (f : Fr) (k : Nat) (s : Dr) (w : World) (hk : k ≤ maxF) (h : dInv f 3 k s w) :
    Calls Tryz.prog 130 #[.pointer (some ⟨f.b, 0, none⟩)] w fun e w' => e = .returned (.int .i64 (dCnt f.g f.q f.N s)) ∧ dInvR f 3 k s w' := by
  obtain ⟨⟨rv, wv, hS⟩, hok⟩ := h
  have hmk := maxF_eq
  have hw := hok.2.2.1
  refine (d_count f w rv wv s.way s.most s.L s.T hS (by omega)).mono ?_
  rintro e w' ⟨rfl, v, h1, h2⟩
  exact ⟨rfl, ⟨v, wv, h1, h2⟩, hok⟩
theorem dr_take (f : Fr) (k : Nat) (s : Dr) (w : World) (i : Nat) (hk : k < maxF) (h : dInvR f 3 k s w) (hi : i < dCnt f.g f.q f.N s) :
    Calls Tryz.prog 131 #[.pointer (some ⟨f.b, 0, none⟩), .int .i64 i] w fun e w' => e = .returned (.tuple #[]) ∧ dInv f 3 (k + 1) (dNxt f.g f.q f.N s i) w' := by
  obtain ⟨⟨rv, wv, hS, ho⟩, hok⟩ := h
  unfold dCnt at hi
  have hmk := maxF_eq
  have hwl := waitN_len f.g f.q f.N s.L
  obtain ⟨_, hN⟩ := hS.st.N12
  have hok2 := hok
  obtain ⟨h1, h2, h3, h4, h5, h6⟩ := hok2
  unfold dNxt
  by_cases hlt : (waitN f.g f.q f.N s.L).length ≤ i
  · rw [if_pos hlt]
    obtain ⟨ar, cr, rfl⟩ := owns_slice ho
    obtain ⟨j, hj⟩ : ∃ j, i = (waitN f.g f.q f.N s.L).length + j := ⟨i - (waitN f.g f.q f.N s.L).length, by omega⟩
    rw [hj, Nat.add_sub_cancel_left]
    have hjw : j < s.way.length := by omega
    have hmem : s.way[j]?.getD 0 ∈ s.way := by rw [List.getElem?_eq_getElem hjw]; exact List.getElem_mem hjw
    have hv := h4 _ hmem
    obtain ⟨v, hve⟩ := Int.eq_ofNat_of_zero_le hv.1
    have hvN : v < f.N := by omega
    refine (d_takeWay f w ar _ cr wv s.way s.most s.L s.T hS (by omega) j hjw (by omega) v hve hvN (by have := h1 v hvN; omega)).mono ?_
    rintro e w' ⟨rfl, wv', h7⟩
    refine ⟨rfl, ⟨.slice ar (waitN f.g f.q f.N s.L).length cr, wv', ?_⟩, okD_land hok j⟩
    have e1 : dLand s j = ⟨fun u => if u = v then s.L v + 1 else s.L u, s.T, s.way.eraseIdx j, s.most⟩ := by unfold dLand; rw [hve, Int.toNat_natCast]
    rw [e1]; exact h7
  · rw [if_neg hlt]
    obtain ⟨br, cr, rfl, _, hbr⟩ := owns_some ho (by omega)
    have hx := owns_int ho i (by omega)
    have hmem : (waitN f.g f.q f.N s.L)[i]?.getD 0 ∈ waitN f.g f.q f.N s.L := by rw [List.getElem?_eq_getElem (by omega)]; exact List.getElem_mem _
    obtain ⟨q1, q2, _⟩ := waitTo_mem _ _ _ hmem
    obtain ⟨x, hxe⟩ := Int.eq_ofNat_of_zero_le q1
    rw [hxe] at hx q2 ⊢
    rw [Int.toNat_natCast]
    have hxN : x < f.N := by omega
    refine (d_takeFire f w br _ cr x i wv s.way s.most s.L s.T hS (by omega) hbr (by omega) hx hxN (fun u hu => by have := h1 u hu; omega) (by have := h2 x hxN; omega) (by omega)).mono ?_
    rintro e w' ⟨rfl, wv', h7⟩
    exact ⟨rfl, ⟨_, wv', h7⟩, okD_fire hS.st.gok hN hok x⟩

theorem nil_takeD (a : Addr) (w : World) : (nilAhead 296 90 (.pointer (some a)) "sandpile/schedule.take").run Tryz.prog w = .ok (some false) w := by kernel_rfl
theorem method_takeD (a : Addr) (w : World) : (method 296 90 (.pointer (some a)) "sandpile/schedule.take").run Tryz.prog w = .ok (131, .pointer (some a)) w := by kernel_rfl
theorem method_countD (a : Addr) (w : World) : (method 296 90 (.pointer (some a)) "sandpile/schedule.count").run Tryz.prog w = .ok (130, .pointer (some a)) w := by kernel_rfl

set_option maxRecDepth 100000 in
set_option maxHeartbeats 2000000 in
theorem p_chooseD {σ : Type} (cnt : σ → Nat) (nxt : σ → Nat → σ) (Inv InvR : Nat → σ → World → Prop) (b : Nat) (picks : List Int) (pv : Value) (W0 : World) (hp : IntsR W0 pv picks) (hpl : 0 < picks.length) (hpp : ∀ k ∈ picks, 0 ≤ k)
    (hbel : ∀ k s w, InvR k s w → Below W0.heap.size W0 w)
    (hcnt : ∀ k s w, k ≤ maxF → Inv k s w → cnt s ≤ 1000000000) (hdrew : ∀ k s w, InvR k s w → InvR k s w.drew)
    (hcount : ∀ k s w, k ≤ maxF → Inv k s w → Calls Tryz.prog 130 #[.pointer (some ⟨b, 0, none⟩)] w fun e w' => e = .returned (.int .i64 (cnt s)) ∧ InvR k s w')
    (htake : ∀ k s w (i : Nat), k < maxF → InvR k s w → i < cnt s → Calls Tryz.prog 131 #[.pointer (some ⟨b, 0, none⟩), .int .i64 i] w fun e w' => e = .returned (.tuple #[]) ∧ Inv (k + 1) (nxt s i) w')
    (s0 : σ) (w : World) (hI : Inv 0 s0 w) :
    Calls Tryz.prog 42 #[.iface 90 (.pointer (some ⟨b, 0, none⟩)), pv] w (RetCh (fun s w' => ∃ k, InvR k s w') (chGo cnt nxt picks maxF 0 s0)) := by
  have hmf : ∀ (fn : Fn) (first cap : Array Value) (w : World), (Instr.makeFunc fn first cap).run Tryz.prog w = .ok (.func fn first cap) w := fun _ _ _ _ => rfl
  have hm1 := method_countD
  have hm2 := method_takeD
  have hm3 := nil_takeD
  obtain ⟨pa, pcap, rfl, hcap, hcm, hlen, hc⟩ := hp
  obtain ⟨b', off', rfl, hb', hcs⟩ := hc.int hpl
  generalize hz : chGo cnt nxt picks maxF 0 s0 = z
  have HZ := hid hz
  have HC := hid hcount
  have HT := hid htake
  have HI := hid hI
  have HB := hid hbel
  have HP := hid hpp
  have HN := hid hcnt
  have HDR := hid hdrew
  have HCS := hid hcs
  have hmq : Hid ((maxF : Int) = 1048576) := maxF_eq
  clear hdrew hz hcount htake hI hbel hpp hcs hc hcnt
  go_enter Tryz.func42, Tryz.ntmps42
  go_wp2
  go_loopw [5] (fun i wr => ∃ (k : Nat) (s : σ), k ≤ maxF ∧ i = .int .i64 k ∧ Hid (Inv k s wr) ∧ Hid (chGo cnt nxt picks (maxF - k) k s = z)) (fun i _ => maxF - (intOf i).toNat)
  case atStart => exact ⟨0, s0, Nat.zero_le _, rfl, HI, HZ⟩
  case round =>
    obtain ⟨k, s, hk, rfl, HI, HZ⟩ := hrel
    have hC := hid (HC.out k s wr hk HI.out)
    have hcb := HN.out k s wr hk HI.out
    by_cases h0 : cnt s = 0
    · have hz2 := hid (HZ.out.symm.trans (chGo_done cnt nxt picks (maxF - k) k s h0))
      generalize cnt s = n at *
      subst h0
      go_wp2_with (go_at_call 130; refine hC.out.mono ?_; rintro e w1 ⟨rfl, hI1⟩; have HI1 := hid hI1; clear hI1)
      go_ret
      rw [hz2.out]
      exact ⟨rfl, k, HI1.out⟩
    · by_cases hkm : k = maxF
      · have hz2 : Hid (z = none) := HZ.out.symm.trans (by rw [hkm, Nat.sub_self]; exact chGo_over cnt nxt picks maxF s h0)
        have hkb : ((k : Int) == 1048576) = true := by rw [hkm, hmq.out]; decide
        have hnb : (((cnt s : Nat) : Int) == 0) = false := by rw [beq_eq_false_iff_ne]; omega
        generalize cnt s = n at *
        clear hkm
        go_wp2_with (go_at_call 130; refine hC.out.mono ?_; rintro e w1 ⟨rfl, hI1⟩; have HI1 := hid hI1; clear hI1)
        go_ret
        rw [hz2.out]
        exact ⟨rfl, s, k, HI1.out⟩
      · have hkm' : k < maxF := by omega
        have hz2 := hid (HZ.out.symm.trans (chGo_step cnt nxt picks k s h0 hkm'))
        have hkb : ((k : Int) == 1048576) = false := by have := hmq.out; rw [beq_eq_false_iff_ne]; omega
        have hk20 : (k : Int) < 1048576 := by have := hmq.out; omega
        have hkl : k % picks.length < picks.length := Nat.mod_lt _ hpl
        have hpk := pickAt_nn picks HP.out k
        have hd : ∀ w1, InvR k s w1 → w1.cell? ⟨b', off' + k % picks.length, none⟩ = some (.int .i64 (pickAt picks k)) := fun w1 h => ((HB.out k s w1 h).cell (p := ⟨b', off' + k % picks.length, none⟩) hb').trans (HCS.out _ hkl)
        have HD := hid hd
        have hmod1 := Int.emod_lt_of_pos (pickAt picks k) (show (0 : Int) < ((cnt s : Nat) : Int) by omega)
        have hmod2 := Int.emod_nonneg (pickAt picks k) (show ((cnt s : Nat) : Int) ≠ 0 by omega)
        have hT2 : Hid (∀ w1, InvR k s w1 → Calls Tryz.prog 131 #[.pointer (some ⟨b, 0, none⟩), .int .i64 (pickAt picks k % ((cnt s : Nat) : Int))] w1 fun e w' => e = .returned (.tuple #[]) ∧ Inv (k + 1) (nxt s (pickAt picks k % ((cnt s : Nat) : Int)).toNat) w') := fun w1 h => by
          have := HT.out k s w1 (pickAt picks k % ((cnt s : Nat) : Int)).toNat hkm' h (by omega)
          rw [Int.toNat_of_nonneg hmod2] at this
          exact this
        have hnb : (((cnt s : Nat) : Int) == 0) = false := by rw [beq_eq_false_iff_ne]; omega
        have hn0 : 0 < cnt s := by omega
        generalize pickAt picks k = p at *
        generalize hsn : nxt s (p % ((cnt s : Nat) : Int)).toNat = s' at *
        generalize cnt s = n at *
        have hpne : ¬ picks = [] := by rintro rfl; simp at hpl
        have hmd : (k : Int).tmod (picks.length : Int) = ((k % picks.length : Nat) : Int) := (Int.ofNat_tmod k picks.length).symm
        have hpm : p.tmod (n : Int) = p % (n : Int) := Int.tmod_eq_emod_of_nonneg hpk
        have hn00 : ¬ n = 0 := by omega
        have hkl1 : ((k % picks.length : Nat) : Int) < (picks.length : Int) := by omega
        have hkl0 : (0 : Int) ≤ ((k % picks.length : Nat) : Int) := by omega
        generalize k % picks.length = kl at *
        clear hd hsn h0 hkm
        go_wp2_with (go_at_call 130; refine hC.out.mono ?_; rintro e w1 ⟨rfl, hI1⟩; have d1 := HD.out w1 hI1; have HI1 := hid hI1; clear hI1)
        let S : World → Prop := fun w' => w'.cell? ⟨b', off' + kl, none⟩ = some (.int .i64 p)
        (refine wp_region_text 13 [0,1,2,3,4,5,6,7,8,9,10,11,12] S (by kernel_rfl) (by kernel_rfl) (by intro _ _ d _ _ h; cases d <;> exact h) ?hS ?_; rotate_left; simp only [List.map_cons, List.map_nil, List.getD_cons_zero, List.getD_cons_succ, List.drop_succ_cons, List.drop_zero])
        case hS => exact d1
        (repeat ((refine' wpSeq_take rfl _ (by rfl) ?_ ?_; rotate_left; focus (intro w' hS; (try dsimp only at hS); have s1 : w'.cell? ⟨b', off' + kl, none⟩ = some (.int .i64 p) := hS; go_simp; (first | done | with_reducible rfl)); (try simp only [Act.put, List.setIfInBounds_toArray, List.set_cons_zero, List.set_cons_succ])); (try simp only [Act.put, List.setIfInBounds_toArray, List.set_cons_zero, List.set_cons_succ])))
        refine wpSeq_nil ?_
        clear S
        go_wp2_with (go_at_call 131; refine (hT2.out w1.drew (HDR.out _ _ _ HI1.out)).mono ?_; rintro e w2 ⟨rfl, hI2⟩; have HI2 := hid hI2; clear hI2)
        go_roundw
        case rel => exact ⟨k + 1, s', by omega, by go_num, HI2, hid hz2.out.symm⟩
        case measure => simp [intOf]; omega

/-- Drifting with so many rounds left, from the i-th on. -/
def drGo (g : G) (q : Int) (N : Nat) (picks : List Int) : Nat → Nat → Dr → Option Dr := chGo (dCnt g q N) (dNxt g q N) picks

theorem dr_choose (f : Fr) (picks : List Int) (pv : Value) (hp : IntsR f.W0 pv picks) (hpl : 0 < picks.length) (hpp : ∀ k ∈ picks, 0 ≤ k) (s0 : Dr) (w : World) (hI : dInv f 3 0 s0 w) :
    Calls Tryz.prog 42 #[.iface 90 (.pointer (some ⟨f.b, 0, none⟩)), pv] w (RetCh (fun s w' => ∃ k, dInvR f 3 k s w') (drGo f.g f.q f.N picks maxF 0 s0)) := by
  have hmk := maxF_eq
  refine p_chooseD (dCnt f.g f.q f.N) (dNxt f.g f.q f.N) (dInv f 3) (dInvR f 3) f.b picks pv f.W0 hp hpl hpp ?_ ?_ ?_ ?_ ?_ s0 w hI
  · rintro k s w ⟨⟨rv, wv, hS, _⟩, _⟩; exact hS.st.below
  · rintro k s w hk ⟨⟨rv, wv, hS⟩, hok⟩
    have h1 := waitN_len f.g f.q f.N s.L
    have := hS.st.N12
    have := hok.2.2.1
    unfold dCnt; omega
  · rintro k s w ⟨⟨rv, wv, hS, ho⟩, hok⟩; exact ⟨⟨rv, wv, hS.mono (Below.drew (Below.refl _ _)), ho.drew⟩, hok⟩
  · intro k s w hk h; exact dr_count f k s w hk h
  · intro k s w i hk h hi; exact dr_take f k s w i hk h hi

end Go.Proofs.YtbjoblkigbphhaaGreat
