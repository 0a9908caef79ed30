/-
  Contract of the program's schedule: run. Contracts of the program's schedule: started, Run, Trace.
  Contracts of the library: slices.Delete (by the kit's), bits.Mul at (1, n), slices.Repeat of one element.
  Contracts of the library: bits.Mul at (1, n), slices.Repeat of one element.
-/
import Derived.Test.YtbjoblkigbphhaaGreatP11
import Derived.Shelf.Slices.Delete
import Derived.Lib.OwnBridge
import Derived.Laws.CopyOwn
namespace Go.Proofs.YtbjoblkigbphhaaGreat
open Go.RowKit

theorem StI.kept {T0 : TypeId} {f : Fr} {w w' : World} {tail : List Value} {L T : Nat → Int} (h : StI T0 f w tail L T) {p : Nat → Prop} (hK : KeptB w w' p) (p1 : ¬ p f.b) (p2 : ¬ p f.bl) (p3 : ¬ p f.bt) (p4 : ¬ p f.bv) (hB : Below f.W0.heap.size f.W0 w') : StI T0 f w' tail L T := by
  obtain ⟨l1, l2, l3, l4⟩ := h.lts
  refine ⟨?_, h.hb, owns_keptB h.left hK (fun k hk => by obtain rfl := Option.some.inj hk; exact p2), owns_keptB h.times hK (fun k hk => by obtain rfl := Option.some.inj hk; exact p3), owns_keptB h.vals hK (fun k hk => by obtain rfl := Option.some.inj hk; exact p4), h.n1, h.n2, h.n3, h.n4, h.n5, h.n6, hB, h.edges, h.gok, h.hn, h.hq⟩
  have := hK.2 f.b l1 p1
  have hb := h.blk
  unfold Blk at *
  rw [this]; exact hb
theorem grown_keptB {w w' : World} {r : Option Nat} (h : w.grownBy w' r) : KeptB w w' (fun k => r = some k) := ⟨h.size, fun k hk hne => h.block k hk (fun e => hne e.symm)⟩
theorem KeptB.cell {w w' : World} {p : Nat → Prop} (h : KeptB w w' p) (k o : Nat) (hk : k < w.heap.size) (hp : ¬ p k) : w'.cell? ⟨k, o, none⟩ = w.cell? ⟨k, o, none⟩ := by
  refine World.cell?_of_block ?_
  exact h.2 k hk hp

theorem evs_ok {g : G} {l : List (Int × Int)} (h : evsErr g l = 0) : l.length ≤ 4096 ∧ ∀ k, k < l.length → ((l[k]?.getD (0, 0)).1 = 0 ∨ (l[k]?.getD (0, 0)).1 = 1) ∧ 0 ≤ (l[k]?.getD (0, 0)).2 ∧ ((l[k]?.getD (0, 0)).1 = 1 → (l[k]?.getD (0, 0)).2 < g.n) := by
  unfold evsErr at h
  split at h
  · omega
  · refine ⟨by omega, fun k hk => ?_⟩
    have h1 := firstNZ_zero _ _ _ h k (Nat.zero_le _) (by omega)
    unfold evAt evErr vtx at h1
    generalize l[k]?.getD (0, 0) = x at *
    grind

end Go.Proofs.YtbjoblkigbphhaaGreat

namespace Go.Proofs.YtbjoblkigbphhaaGreat
open Go.RowKit

/-- The state of a configuration is handed back, or none and the number of an error. -/
def RetSt (T0 : TypeId) (w : World) (g : G) (q : Int) (ds : List Int) (l : List (Int × Int)) (N : Nat) (e : Ending) (w' : World) : Prop :=
  Below w.heap.size w w' ∧ (runErr g q ds l ≠ 0 → e = .returned (.tuple #[.pointer none, .int .i64 (runErr g q ds l)])) ∧
    (runErr g q ds l = 0 → ∃ f : Fr, f.W0 = w ∧ f.N = N ∧ f.g = g ∧ (f.q : Int) = q ∧ e = .returned (.tuple #[.pointer (some ⟨f.b, 0, none⟩), .int .i64 0]) ∧ StI T0 f w' [.slice none 0 0] (dOf ds) fun _ => 0)

theorem run_ok {g : G} {q : Int} {ds : List Int} {l : List (Int × Int)} (h : runErr g q ds l = 0) : cfgErr g q ds = 0 ∧ evsErr g l = 0 := by
  unfold runErr at h
  by_cases h1 : cfgErr g q ds = 0
  · rw [if_neg (by simpa using h1)] at h; exact ⟨h1, h⟩
  · rw [if_pos h1] at h; exact absurd h h1
theorem cfg_bd {g : G} {q : Int} {ds : List Int} (h : cfgErr g q ds = 0) (N : Nat) (hN : g.n = N) : okS N 1048576 0 ⟨dOf ds, fun _ => 0⟩ := by
  have hc := cfg_ok h
  refine ⟨fun u hu => ?_, fun u hu => by dsimp only; omega⟩
  have h1 : u < ds.length := by have := hc.2.2.2.1; omega
  have := hc.2.2.2.2.1 _ (List.getElem_mem h1)
  show _ ≤ dOf ds u ∧ dOf ds u ≤ _
  unfold dOf; rw [List.getElem?_eq_getElem h1]; simp only [Option.getD_some]; omega

/-- A trace is handed back, or none and the number of an error. -/
def RetTrc (T0 : TypeId) (w : World) (r : Int ⊕ List Int) (e : Ending) (w' : World) : Prop :=
  Below w.heap.size w w' ∧ match r with
  | .inl k => e = .returned (.tuple #[.slice none 0 0, .int .i64 k])
  | .inr tr => ∃ v, e = .returned (.tuple #[v, .int .i64 0]) ∧ w'.ownsRow w.heap.size T0 1 v tr.length (tr.map (Value.int .i64))

end Go.Proofs.YtbjoblkigbphhaaGreat

namespace Go.Proofs.YtbjoblkigbphhaaGreat
open Go.RowKit

def renDel : Go.Shelf.Ren := ⟨fun | 23 => 132 | n => n, fun | 0 => 0 | 3 => 3 | 4 => 4 | 22 => 25 | n => n, fun n => n⟩
theorem layDel : Go.Proofs.Lays2.n23 Tryz.prog renDel :=
  { mixed := by kernel_rfl, f23 := by kernel_rfl, t0 := by kernel_rfl, a0 := fun _ => by kernel_rfl, z0 := fun _ => by kernel_rfl, v0 := fun _ => by kernel_rfl
    t3 := by kernel_rfl, a3 := fun _ => by kernel_rfl, z3 := fun _ => by kernel_rfl, v3 := fun _ => by kernel_rfl
    t4 := by kernel_rfl, a4 := fun _ => by kernel_rfl, z4 := fun _ => by kernel_rfl, v4 := fun _ => by kernel_rfl
    t22 := by kernel_rfl, a22 := fun _ => by kernel_rfl, z22 := fun _ => by kernel_rfl, v22 := fun _ => by kernel_rfl, i3 := by kernel_rfl }

/-- slices.Delete(s, i, i + 1) of a row that is owned. -/
theorem c_Delete (zs : List Int) (g cap i base : Nat) (w : World) (ho : w.ownsRow base 3 1 (.slice (some ⟨g, 0, none⟩) zs.length cap) zs.length (zs.map (Value.int .i64))) (hi : i < zs.length) :
    Calls Tryz.prog 132 #[.slice (some ⟨g, 0, none⟩) zs.length cap, .int .i64 i, .int .i64 (i + 1 : Nat)] w fun e w' => e = .returned (.slice (some ⟨g, 0, none⟩) (zs.length - 1) cap) ∧
      w'.ownsRow base 3 1 (.slice (some ⟨g, 0, none⟩) (zs.length - 1) cap) (zs.length - 1) ((zs.eraseIdx i).map (Value.int .i64)) ∧ KeptB w w' (fun k => k = g) ∧ (∀ W0 : World, ∀ B, Below B W0 w → B ≤ g → Below B W0 w') := by
  obtain ⟨g', cap', he, hb, hlt, hn, hm, _, hH⟩ := Go.Lib.holds_of_ownsRow ho (by simp)
  injection he with h1 _ h2
  injection h1 with h1
  injection h1 with h1
  subst h1; subst h2
  refine (Any.slices_Delete_int layDel g 0 cap i (i + 1) zs w hH hn (by unfold maxLen at hm; omega) (by omega) (by omega)).mono ?_
  rintro e w' ⟨rfl, q, rfl⟩
  have hl : (zs.take i ++ zs.drop (i + 1) ++ List.replicate (i + 1 - i) 0).length = zs.length := by simp; omega
  have h2 := Go.Lib.ownsRow_putRow (q := q) (k := zs.length - 1) ho hl (by omega)
  refine ⟨by rw [show i + 1 - i = 1 by omega], ?_, ?_, fun W0 B h hBg => Go.Lib.below_putRow h hBg⟩
  · have e1 : (zs.take i ++ zs.drop (i + 1) ++ List.replicate (i + 1 - i) 0).take (zs.length - 1) = zs.eraseIdx i := by
      rw [List.eraseIdx_eq_take_drop_succ, List.take_left' (by simp; omega)]
    rw [e1] at h2
    exact h2
  · have hB := Go.Lib.below_putRow (enc := Value.int .i64) (q := q) (d := (zs.take i ++ zs.drop (i + 1) ++ List.replicate (i + 1 - i) 0).toArray) (Below.refl 0 w) (Nat.zero_le g)
    refine ⟨hB.size, fun k hk hne => ?_⟩
    have hne' : ¬ k = g := hne
    simp [Go.Sort.putRow, Go.Sort.mapBlock, Go.Sort.ahead, Array.getElem?_modify, Ne.symm hne']

end Go.Proofs.YtbjoblkigbphhaaGreat

namespace Go.Proofs.YtbjoblkigbphhaaGreat
open Go.RowKit

set_option maxRecDepth 100000 in
set_option maxHeartbeats 4000000 in
theorem c_Mul64 (n : Nat) (hn : n ≤ 50) (w : World) : Calls Tryz.prog 137 #[.int .u64 1, .int .u64 n] w fun e w' => e = .returned (.tuple #[.int .u64 0, .int .u64 n]) ∧ w = w' := by
  go_enter Tryz.func137, Tryz.ntmps137
  go_wp2
  go_ret2
  refine ⟨?_, rfl⟩
  have h : n = 0 ∨ n = 1 ∨ n = 2 ∨ n = 3 ∨ n = 4 ∨ n = 5 ∨ n = 6 ∨ n = 7 ∨ n = 8 ∨ n = 9 ∨ n = 10 ∨ n = 11 ∨ n = 12 ∨ n = 13 ∨ n = 14 ∨ n = 15 ∨ n = 16 ∨ n = 17 ∨ n = 18 ∨ n = 19 ∨ n = 20 ∨ n = 21 ∨ n = 22 ∨ n = 23 ∨ n = 24 ∨ n = 25 ∨ n = 26 ∨ n = 27 ∨ n = 28 ∨ n = 29 ∨ n = 30 ∨ n = 31 ∨ n = 32 ∨ n = 33 ∨ n = 34 ∨ n = 35 ∨ n = 36 ∨ n = 37 ∨ n = 38 ∨ n = 39 ∨ n = 40 ∨ n = 41 ∨ n = 42 ∨ n = 43 ∨ n = 44 ∨ n = 45 ∨ n = 46 ∨ n = 47 ∨ n = 48 ∨ n = 49 ∨ n = 50 := by omega
  rcases h with rfl | rfl | rfl | rfl | rfl | rfl | rfl | rfl | rfl | rfl | rfl | rfl | rfl | rfl | rfl | rfl | rfl | rfl | rfl | rfl | rfl | rfl | rfl | rfl | rfl | rfl | rfl | rfl | rfl | rfl | rfl | rfl | rfl | rfl | rfl | rfl | rfl | rfl | rfl | rfl | rfl | rfl | rfl | rfl | rfl | rfl | rfl | rfl | rfl | rfl | rfl <;> (show Ending.returned _ = Ending.returned _; first | rfl | kernel_rfl)

set_option maxRecDepth 100000 in
set_option maxHeartbeats 4000000 in
theorem c_Mul (n : Nat) (hn : n ≤ 50) (w : World) : Calls Tryz.prog 135 #[.int .u64 1, .int .u64 n] w fun e w' => e = .returned (.tuple #[.int .u64 0, .int .u64 n]) ∧ w = w' := by
  have hc := hid (c_Mul64 n hn w)
  go_enter Tryz.func135, Tryz.ntmps135
  go_wp2_with (go_at_call 137; refine hc.out.mono ?_; rintro e w1 ⟨rfl, rfl⟩)
  go_ret2
  exact ⟨rfl, rfl⟩

/-- m times u, then zeros. -/
def repC (n m : Nat) (u : Int) : Array Value := ((List.replicate m (Value.int .i64 u)) ++ List.replicate (n - m) (Value.int .i64 0)).toArray

theorem repC_size (n m : Nat) (u : Int) (h : m ≤ n) : (repC n m u).size = n := by unfold repC; simp; omega
theorem repC_step (n m c : Nat) (u : Int) (h : m + c ≤ n) : ((repC n m u).toList.take m ++ List.replicate c (Value.int .i64 u) ++ (repC n m u).toList.drop (m + c)).toArray = repC n (m + c) u := by
  unfold repC
  congr 1
  rw [List.toList_toArray, List.take_left' (by simp), List.drop_append, ← List.replicate_append_replicate]
  simp only [List.length_replicate, List.drop_replicate]
  rw [show m - (m + c) = 0 by omega, show n - m - (m + c - m) = n - (m + c) by omega]
  simp
theorem repC_at (n m : Nat) (u : Int) (j : Nat) (h : j < m) : (repC n m u)[j]? = some (.int .i64 u) := by
  unfold repC
  simp only [List.getElem?_toArray]
  rw [List.getElem?_append_left (by simpa using h)]
  simp [h]
/-- copy(s[m:], x) where x holds u, c times. -/
theorem run_rep {W : World} {g : Nat} (n m c : Nat) (u : Int) (ty : TypeId) (hb : Blk W g (repC n m u) 3) (hmc : m + c ≤ n) (a : Addr) (sLen sCap : Nat) (hc : c = min sLen (n - m)) (hsrc : ∀ j, j < c → W.cell? (a.add j) = some (.int .i64 u)) (off : Nat) (ho : off = m) (dl : Nat) (hdl : dl = n - m) :
    ∃ W', (Builtin.copy_ #[25, 25] ty #[.slice (some ⟨g, off, none⟩) dl dl, .slice (some a) sLen sCap]).run Tryz.prog W = .ok (.int .i64 c) W' ∧ Hid (Blk W' g (repC n (m + c) u) 3) ∧ Hid (∀ B W0, Below B W0 W → B ≤ g → Below B W0 W') := by
  subst ho hdl
  have hsz1 : (Tryz.prog.info? 3).map (·.size) = some 1 := by kernel_rfl
  have hcp := run_copy_row (P := Tryz.prog) W 25 25 ty 3 g off (n - off) (n - off) a sLen sCap (repC n off u) 3 (List.replicate c (.int .i64 u)) Tryz.underInts hsz1 hb (by rw [List.length_replicate]; exact hc)
    (fun j v hj => by
      rw [List.getElem?_replicate] at hj
      split at hj
      · rename_i h; rw [← Option.some.inj hj]; exact hsrc j h
      · cases hj) (by rw [List.length_replicate, repC_size _ _ _ (by omega)]; exact hmc) (by intro v hv; obtain rfl := List.eq_of_mem_replicate hv; rfl)
  rw [List.length_replicate, repC_step n off c u hmc] at hcp
  refine ⟨_, hcp, setRow_heap _ _ _ _ _ _ hb, fun B W0 h hB => below_setRow h hB _⟩

set_option maxRecDepth 100000 in
set_option maxHeartbeats 4000000 in
theorem c_Repeat (u : Int) (n : Nat) (h1 : 1 ≤ n) (h2 : n ≤ 50) (bx cx : Nat) (w : World) (hbx : bx < w.heap.size) (hx : w.cell? ⟨bx, 0, none⟩ = some (.int .i64 u)) :
    Calls Tryz.prog 134 #[.slice (some ⟨bx, 0, none⟩) 1 cx, .int .i64 n] w fun e w' => ∃ b, e = .returned (.slice (some ⟨b, 0, none⟩) n n) ∧
      w'.ownsRow w.heap.size 3 1 (.slice (some ⟨b, 0, none⟩) n n) n ((List.replicate n u).map (Value.int .i64)) ∧ Below w.heap.size w w' := by
  have hm := hid (c_Mul n h2)
  have hmk := run_zer (P := Tryz.prog) 25 3 Tryz.underInts Tryz.infoInt n n (Int.le_refl _) (Int.le_refl _) (by omega)
  have hn0 : ¬ (n : Int) < 0 := by omega
  have hb1 : ¬ (9223372036854775807 : Int) < (n : Int) := by omega
  have hb2 : decide ((9223372036854775807 : Int) < (n : Int)) = false := decide_eq_false hb1
  have hz0 : Blk (w.alloc (.cells (zer n) 3)) w.heap.size (repC n 0 u) 3 := by
    have := Blk.new w (zer n) 3
    have e : repC n 0 u = zer n := by unfold repC zer; simp
    rw [e]; exact this
  have hB0 : Below w.heap.size w (w.alloc (.cells (zer n) 3)) := (Below.refl _ _).alloc (Nat.le_refl _) _
  obtain ⟨W1, hcp, hb3, hB3⟩ := run_rep n 0 1 u 3 hz0 (by omega) ⟨bx, 0, none⟩ 1 cx (by omega) (fun j hj => by
    obtain rfl : j = 0 := by omega
    exact (hB0.cell (p := ⟨bx, 0, none⟩) hbx).trans hx) 0 rfl n (by omega)
  have hB1 := hid (hB3.out _ _ hB0 (Nat.le_refl _))
  rw [Nat.zero_add] at hb3
  clear hB3 hz0 hB0
  go_enter Tryz.func134, Tryz.ntmps134
  go_wp2_with (go_at_call 135; refine (hm.out _).mono ?_; rintro e w1 ⟨rfl, rfl⟩)
  clear hcp hmk hm hx hb1 hb2 hn0
  go_loopw [8] (fun i wr => ∃ m : Nat, 1 ≤ m ∧ m ≤ n ∧ i = .int .i64 m ∧ Hid (Blk wr w.heap.size (repC n m u) 3) ∧ Hid (Below w.heap.size w wr)) (fun i _ => n - (intOf i).toNat)
  case atStart => exact ⟨1, Nat.le_refl _, h1, rfl, hb3, hB1⟩
  case round =>
    clear hb3 hB1
    obtain ⟨m, hm1, hmn, rfl, hb, hB⟩ := hrel
    by_cases hlt : m < n
    · have hlt' : (m : Int) < (n : Int) := by omega
      obtain ⟨W2, hcp, hb4, hB4⟩ := run_rep (W := wr.drew) n m (min m (n - m)) u 3 hb.out (by omega) ⟨w.heap.size, 0, none⟩ m n rfl (fun j hj => by
        have : (⟨w.heap.size, 0, none⟩ : Addr).add j = ⟨w.heap.size, j, none⟩ := by unfold Addr.add; split <;> simp_all
        rw [this]
        exact (Blk.cell hb.out j).trans (repC_at n m u j (by omega))) m rfl (n - m) rfl
      have hB2 := hid (hB4.out _ _ hB.out.drew (Nat.le_refl _))
      clear hB4
      obtain ⟨c, hc⟩ : ∃ c, c = min m (n - m) := ⟨_, rfl⟩
      rw [← hc] at hcp hb4
      have hc1 : 1 ≤ c := by omega
      have hc2 : m + c ≤ n := by omega
      have hnm : ¬ n = m := by omega
      clear hc
      go_wp2
      let S : World → Prop := fun _ => True
      (refine wp_region_text 8 [0,1,2,3,4,5,6,7] S (by kernel_rfl) (by kernel_rfl) (by intro _ _ d _ _ h; cases d <;> exact h) ?hS ?_; rotate_left; simp only [List.map_cons, List.map_nil, List.getD_cons_zero, List.getD_cons_succ, List.drop_succ_cons, List.drop_zero])
      case hS => trivial
      (repeat ((refine' wpSeq_take rfl _ (by rfl) ?_ ?_; rotate_left; focus (intro w' hS; (try dsimp only at hS); skip; go_simp; (first | done | with_reducible rfl)); (try simp only [Act.put, List.setIfInBounds_toArray, List.set_cons_zero, List.set_cons_succ])); (try simp only [Act.put, List.setIfInBounds_toArray, List.set_cons_zero, List.set_cons_succ])))
      refine wpSeq_call rfl (by rfl) (fun K hK => ?_)
      go_simp
      refine hK _ _ trivial ?_
      clear hK K
      (try simp only [Act.put, List.setIfInBounds_toArray, List.set_cons_zero, List.set_cons_succ])
      refine wpSeq_nil ?_
      clear S hcp
      go_wp2
      go_roundw
      case rel => exact ⟨m + c, by omega, hc2, by go_num, hb4, hB2⟩
      case measure => simp [intOf]; omega
    · obtain rfl : m = n := by omega
      go_wp2
      go_ret
      refine ⟨_, rfl, ?_, hB.out⟩
      have hb := hb.out
      refine ⟨by simp, .inr ⟨w.heap.size, m, repC m m u, rfl, Nat.le_refl _, hb, Nat.le_refl _, by unfold maxLen; omega, by rw [repC_size _ _ _ (Nat.le_refl _)]; omega, ?_⟩⟩
      unfold repC
      simp

end Go.Proofs.YtbjoblkigbphhaaGreat
