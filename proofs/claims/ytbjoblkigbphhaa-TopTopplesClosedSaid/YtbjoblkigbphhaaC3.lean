/-
  Regions that draw their order inside a fence, by an invariant; a map keyed by an array; parallel.Play's key. parallel.Play's key: what it hands back.
-/
import Derived.Test.YtbjoblkigbphhaaQ7
import Derived.OrdersIn
import Derived.Sort.CutIn
import Derived.Maps.Own
import Derived.Maps.OwnSet
import Derived.Maps.OwnIn
import Derived.DeepKeys4
import Derived.Laws.CopyRow
namespace Go.Proofs.Ytbjoblkigbphhaa
set_option linter.unusedVariables false
set_option linter.unusedSimpArgs false

section
variable {F : Fence} {n : Nat} {P : Program} {ops : Array Oper} {md : Region.Mode} {Q : Exit → Act → World → Prop}
theorem wpAnyIn_inv (Inv : Array Bool → Act → World → Prop)
    (hstep : ∀ L a w i, Inv L a w → i ∈ Region.ready md ops L → wpOpIn F n P ops Q i (Inv (L.setIfInBounds i true)) a w)
    (hend : ∀ L a w, Inv L a w → Region.ready md ops L = [] → Q .normal a w) :
    ∀ (fuel : Nat) (L : Array Bool) (a : Act) (w : World), L.toList.count false ≤ fuel → Inv L a w → wpAnyIn F n P md ops Q fuel L a w := by
  intro fuel
  induction fuel with
  | zero =>
    intro L a w hc hI
    have hr : Region.ready md ops L = [] := by
      apply List.eq_nil_iff_forall_not_mem.2
      intro j hj
      have h1 := getD_true_false (mem_ready.1 hj).1
      have h2 := count_set_lt h1
      omega
    exact ⟨hr, hend L a w hI hr⟩
  | succ fuel ih =>
    intro L a w hc hI
    refine ⟨hend L a w hI, fun i hi => ?_⟩
    refine wpOpIn_mono (fun a' w' h' => ih _ a' w' ?_ h') (hstep L a w i hI hi)
    have h2 := count_set_lt (getD_true_false (mem_ready.1 hi).1)
    rw [Array.toList_setIfInBounds]
    omega
theorem wpOpIn_one {i : Nat} {o : Oper} {K : Act → World → Prop} {a : Act} {w : World} (ho : ops[i]? = some o) (h : wpListIn F n P ops (Exit.then K Q) [o] a w) (hg : o.guard = none) : wpOpIn F n P ops Q i K a w := by
  unfold wpOpIn
  simp only [ho]
  have hw : Region.wanted o (yielded ops a.tmps) = true := by unfold Region.wanted; rw [hg]
  rw [if_pos hw]
  unfold wpListIn at h
  rw [if_pos hw] at h
  refine ⟨h.1, ?_⟩
  have h2 := h.2
  generalize (o.semAt F.round a.eval).run P w = r at *
  cases r with
  | ok n w' =>
    cases n <;> simp only [Oper.uponIn] at h2 ⊢ <;>
      first
        | exact h2
        | exact ⟨h2.1, CallsIn.mono h2.2 (fun e w'' he => by cases e <;> exact he)⟩
        | exact ⟨h2.1, RowsIn.mono h2.2 (fun _ _ he => he)⟩
        | exact ⟨h2.1, RoundIn.mono h2.2 (fun e w'' he => by cases e <;> exact he)⟩
  | halt x w' => cases x <;> simp only [Oper.uponIn] at h2 ⊢ <;> exact h2
/-- Whatever waits for something waits for an operation ahead of it in the text (of the waits that bind). -/
def backM (md : Region.Mode) (ops : Array Oper) : Bool := (List.range ops.size).all fun j => ((ops[j]?).map fun o => o.after.all fun e => !Region.binds md e || decide (e.on < j)).getD true
theorem backM_spec (h : backM md ops = true) (j : Nat) (o : Oper) (ho : ops[j]? = some o) : ∀ e ∈ o.after, Region.binds md e = true → e.on < j := by
  unfold backM at h
  have hj : j < ops.size := (Array.getElem?_eq_some_iff.1 ho).1
  have := List.all_eq_true.1 h j (List.mem_range.2 hj)
  rw [ho] at this
  simp only [Option.map_some, Option.getD_some, Array.all_eq_true_iff_forall_mem] at this
  intro e he hb
  have := this e he
  simpa [hb] using this
theorem ready_nil_allM (hb : backM md ops = true) {L : Array Bool} (hs : L.size = ops.size) (hr : Region.ready md ops L = []) : ∀ j, j < ops.size → L.getD j false = true := by
  intro j
  induction j using Nat.strongRecOn with
  | _ j ih =>
    intro hj
    cases hx : L.getD j false with
    | true => rfl
    | false =>
      exfalso
      have : j ∈ Region.ready md ops L := by
        rw [mem_ready]
        refine ⟨?_, ops[j], Array.getElem?_eq_getElem hj, fun e he hbd => ih _ (backM_spec hb j _ (Array.getElem?_eq_getElem hj) e he hbd) (Nat.lt_trans (backM_spec hb j _ (Array.getElem?_eq_getElem hj) e he hbd) hj)⟩
        rw [Array.getD_eq_getD_getElem?, Array.getElem?_eq_getElem (by omega)] at hx ⊢
        simpa using hx
      rw [hr] at this
      cases this
end
end Go.Proofs.Ytbjoblkigbphhaa
namespace Go.Proofs.Ytbjoblkigbphhaa
set_option linter.unusedVariables false
set_option linter.unusedSimpArgs false
open Go.RowKit Go.Shelf Go.Maps

theorem und_seen : Try.prog.underlying 86 = some (.map 82 85) := by kernel_rfl
theorem und_pile : Try.prog.underlying 82 = some (.array 12 3) := by kernel_rfl
theorem und_intJ : Try.prog.underlying 3 = some (.int .i64) := by kernel_rfl
theorem cells_pile : Try.prog.cellsOf 82 = 12 := by kernel_rfl
theorem cells_intJ : Try.prog.cellsOf 3 = 1 := by kernel_rfl
theorem keyType_pile : Try.prog.keyType 82 = true := by kernel_rfl
theorem zero_mark (w : World) : (zeroValue 85).run Try.prog w = .ok (.agg #[.int .i64 0, .int .i64 0]) w := by kernel_rfl
theorem laidOutJ : laidOutB Try.prog = true := by kernel_rfl
theorem law_pile : WideMaps.KeyLaw Try.prog 82 := deep_law_laid laidOutJ (m := 5) (by decide) (of_decide_eq_true (by kernel_rfl)) (by kernel_rfl) (by kernel_rfl)
theorem K_pile : Keyed Try.prog 82 := Keyed.of_law law_pile
theorem mapM_some {α β : Type} {f : α → Option β} : ∀ (L : List α), (∀ x ∈ L, ∃ y, f x = some y) → ∃ ys, L.mapM f = some ys
  | [], _ => ⟨[], rfl⟩
  | x :: L, h => by
    obtain ⟨y, hy⟩ := h x List.mem_cons_self
    obtain ⟨ys, hys⟩ := mapM_some L (fun z hz => h z (List.mem_cons_of_mem _ hz))
    exact ⟨y :: ys, by rw [List.mapM_cons, hy, hys]; rfl⟩
/-- A value is a key. -/
def IsKey (v : Value) : Prop := ∃ vs : List Int, vs.length = 12 ∧ (∀ x ∈ vs, (Lit.int .i64 x).wf = true) ∧ v = .agg (vs.map (Value.int .i64)).toArray
theorem keyLits_intJ (d : Nat) {a : Int} (ha : (Lit.int .i64 a).wf = true) : Try.prog.keyLits (d + 1) 3 [.int .i64 a] = some [.int .i64 a] := by
  unfold Program.keyLits
  rw [und_intJ]
  simp [ha]
theorem IsKey.lit {v : Value} (h : IsKey v) : ∃ kl, keyOf Try.prog 82 v = some kl := by
  obtain ⟨vs, hl, hw, rfl⟩ := h
  have hpos : decide (0 < Try.prog.types.size) = true := by kernel_rfl
  have hsz : ∃ m, Try.prog.types.size = m + 1 := by
    have := of_decide_eq_true hpos
    exact ⟨Try.prog.types.size - 1, by omega⟩
  obtain ⟨m, hm⟩ := hsz
  unfold keyOf
  rw [und_pile]
  dsimp only
  rw [keyType_pile]
  have hf : (Value.agg (vs.map (Value.int .i64)).toArray).formed Try.prog 82 = true := by
    unfold Value.formed
    rw [und_pile]
    dsimp only
    rw [cells_pile]
    simp [hl]
  rw [hf, hm]
  have hc : (Value.agg (vs.map (Value.int .i64)).toArray).cells.toList = vs.map (Value.int .i64) := rfl
  rw [hc]
  obtain ⟨ys, hys⟩ : ∃ ys, (List.range 12).mapM (fun i => Try.prog.keyLits (m + 1) 3 (((vs.map (Value.int .i64)).drop (i * 1)).take 1)) = some ys := by
    refine mapM_some _ fun i hi => ?_
    have hi : i < vs.length := by rw [hl]; exact List.mem_range.1 hi
    have e : ((vs.map (Value.int .i64)).drop (i * 1)).take 1 = [.int .i64 vs[i]] := by
      rw [Nat.mul_one, List.drop_eq_getElem_cons (by rw [List.length_map]; exact hi)]
      simp
    rw [e]
    exact ⟨_, keyLits_intJ m (hw _ (List.getElem_mem hi))⟩
  unfold Program.keyLits
  rw [und_pile]
  dsimp only
  have hcl : (vs.map (Value.int .i64)).length = 12 := by rw [List.length_map, hl]
  rw [cells_pile, cells_intJ, hys]
  simp only [hcl, Bool.and_self, if_true, Option.map_some]
  exact ⟨_, rfl⟩

open Classical in
/-- What is known of an element: it is a pair of numbers. -/
noncomputable def markElem (v : Value) : Option (DataW Unit × List MemPlace) := if ∃ a b : Int, v = .agg #[.int .i64 a, .int .i64 b] then some (.agg [], []) else none
theorem markElem_mk (a b : Int) : markElem (.agg #[.int .i64 a, .int .i64 b]) = some (.agg [], []) := if_pos ⟨a, b, rfl⟩
theorem markElem_inv {v : Value} {z : DataW Unit × List MemPlace} (h : markElem v = some z) : ∃ a b : Int, v = .agg #[.int .i64 a, .int .i64 b] := by
  unfold markElem at h
  split at h
  · assumption
  · cases h

def zer12 : Array Value := #[.int .i64 0, .int .i64 0, .int .i64 0, .int .i64 0, .int .i64 0, .int .i64 0, .int .i64 0, .int .i64 0, .int .i64 0, .int .i64 0, .int .i64 0, .int .i64 0]
/-- The key of a divisor, as cells. -/
def keyArr (ds : List Int) : Array Value := ((ds ++ List.replicate (12 - ds.length) 0).map (Value.int .i64)).toArray
theorem keyArr_key {ds : List Int} (hl : ds.length ≤ 12) (hw : ∀ x ∈ ds, (Lit.int .i64 x).wf = true) : IsKey (.agg (keyArr ds)) := by
  refine ⟨ds ++ List.replicate (12 - ds.length) 0, by simp; omega, fun x hx => ?_, rfl⟩
  rcases List.mem_append.1 hx with h | h
  · exact hw x h
  · rw [List.eq_of_mem_replicate h]; decide
theorem keyArr_eq {ds : List Int} (hl : ds.length ≤ 12) : (zer12.toList.take 0 ++ ds.map (Value.int .i64) ++ zer12.toList.drop (0 + (ds.map (Value.int .i64)).length)).toArray = keyArr ds := by
  unfold keyArr zer12
  congr 1
  rw [List.take_zero, List.nil_append, List.map_append, List.map_replicate, Nat.zero_add, List.length_map]
  congr 1
  exact (List.drop_replicate (n := 12) (a := Value.int .i64 0) (i := ds.length))
theorem keyArr_size {ds : List Int} (hl : ds.length ≤ 12) : (keyArr ds).size = 12 := by
  unfold keyArr
  simp
  omega

end Go.Proofs.Ytbjoblkigbphhaa

namespace Go.Proofs.Ytbjoblkigbphhaa
set_option linter.unusedVariables false
set_option linter.unusedSimpArgs false
open Go.RowKit Go.Shelf Go.Maps

theorem below_setRowJ {B : Nat} {w W : World} {g : Nat} (h : Below B w W) (hg : B ≤ g) (cs : Array Value) : Below B w (W.setRow g cs) :=
  ⟨h.os, h.tape, h.output, by show _ ≤ (W.heap.modify g _).size; rw [Array.size_modify]; exact h.size, fun k hk => (setRow_other W g k cs (by omega)).trans (h.block k hk)⟩
theorem wpList_load_row {P : Program} (w : World) {ops : Array Oper} {rest : List Oper} {o : Oper} {a : Act} {Q : Exit → Act → World → Prop}
    (hg : o.guard = none) (p : Operand) (t : TypeId) (hop : o.op = Op.load t p) (b : Nat) (hp : a.eval p = .pointer (some ⟨b, 0, none⟩)) (v : Value) (hl : (Instr.loadAt t (.pointer (some ⟨b, 0, none⟩))).run P w = .ok v w)
    (hK : wpList P ops Q rest (a.put o.dst v) w) : wpList P ops Q (o :: rest) a w := by
  refine wpList_plain hg fun K' hK' => ?_
  unfold Oper.wp
  simp [execOp, hop, hp, hl, Result.andThen]
  exact hK' _ _ hK
theorem wpList_store_row {P : Program} (w : World) {ops : Array Oper} {rest : List Oper} {o : Oper} {a : Act} {Q : Exit → Act → World → Prop}
    (hg : o.guard = none) (p x : Operand) (t : TypeId) (hop : o.op = Op.store t p x) (b : Nat) (hp : a.eval p = .pointer (some ⟨b, 0, none⟩)) (v : Value) (hx : a.eval x = v) (w' : World) (hl : (Instr.storeAt t (.pointer (some ⟨b, 0, none⟩)) v).run P w = .ok () w')
    (hK : wpList P ops Q rest (a.put o.dst undef) w') : wpList P ops Q (o :: rest) a w := by
  refine wpList_plain hg fun K' hK' => ?_
  unfold Oper.wp
  simp [execOp, hop, hp, hx, hl, Result.andThen]
  exact hK' _ _ hK
theorem load_pile {w : World} {b : Nat} {cs : Array Value} (h : Blk w b cs 82) (hs : cs.size = 12) : (loadVar 82 ⟨b, 0, none⟩).run Try.prog w = .ok (.agg cs) w :=
  run_loadVar_row _ _ 82 82 cs (0, 0) _ h und_pile rfl (by rw [hs]; kernel_rfl)
theorem loadAt_pile {w : World} {b : Nat} {cs : Array Value} (h : Blk w b cs 82) (hs : cs.size = 12) : (Instr.loadAt 82 (.pointer (some ⟨b, 0, none⟩))).run Try.prog w = .ok (.agg cs) w := by
  have := load_pile h hs
  simp only [Instr.loadAt, Instr.sureAddr, Sem.run_bind, Sem.run_pure, Result.andThen]
  exact this
theorem storeAt_pile {w : World} {b : Nat} {old cs : Array Value} (h : Blk w b old 82) (hs : cs.size = 12) (ho : old.size = 12) (h1 : cs.all (·.oneCell') = true) : (Instr.storeAt 82 (.pointer (some ⟨b, 0, none⟩)) (.agg cs)).run Try.prog w = .ok () (w.setRow b cs) := by
  have := run_storeVar_row (P := Try.prog) w b 82 82 old cs h (by rw [hs]; kernel_rfl) (by omega) h1
  simp only [Instr.storeAt, Instr.sureAddr, Sem.run_bind, Sem.run_pure, Result.andThen]
  exact this

set_option maxRecDepth 100000 in
set_option maxHeartbeats 2000000 in
theorem k_pile (ds : List Int) (dv : Value) (w : World) (hd : IntsR w dv ds) (hl0 : 0 < ds.length) (hl : ds.length ≤ 12) :
    Calls Try.prog 41 #[dv] w fun e w' => e = .returned (.agg (keyArr ds)) ∧ Below w.heap.size w w' := by
  have hd' := hd
  obtain ⟨a, cap, rfl, _⟩ := hd'
  have HR := hid ((Blk.new w zer12 82).alloc (.cells zer12 82))
  have HP' := Blk.new (w.alloc (.cells zer12 82)) zer12 82
  rw [World.size_alloc] at HP'
  have HP := hid HP'
  have hW : Below w.heap.size w ((w.alloc (.cells zer12 82)).alloc (.cells zer12 82)) := by go_grown
  have HW := hid hW
  have hd2 := hd.below hW
  obtain ⟨_, _, e, hcap, hcm, _, hc⟩ := hd2
  injection e with e1 _ e3
  subst e1 e3
  obtain ⟨b, off, rfl, hb, hcs⟩ := hc.int hl0
  clear HP' hW hc hd
  unfold zer12 at HR HP HW hb hcs
  obtain ⟨KA, hK⟩ : ∃ KA, KA = keyArr ds := ⟨_, rfl⟩
  rw [← hK]
  have HK := hid hK
  clear hK
  go_enter Try.func41, Try.ntmps41
  go_upto_region 2 with fail
  generalize hW2 : (w.alloc (.cells #[.int .i64 0, .int .i64 0, .int .i64 0, .int .i64 0, .int .i64 0, .int .i64 0, .int .i64 0, .int .i64 0, .int .i64 0, .int .i64 0, .int .i64 0, .int .i64 0] 82)).alloc (.cells #[.int .i64 0, .int .i64 0, .int .i64 0, .int .i64 0, .int .i64 0, .int .i64 0, .int .i64 0, .int .i64 0, .int .i64 0, .int .i64 0, .int .i64 0, .int .i64 0] 82) = W2 at *
  clear hW2
  have hcp := fun ty => run_copy_row (P := Try.prog) W2 25 26 ty 3 (w.heap.size + 1) 0 12 12 ⟨b, off, none⟩ ds.length cap zer12 82 (ds.map (Value.int .i64)) Try.underInts (by kernel_rfl) HP.out
    (by rw [List.length_map]; exact (Nat.min_eq_left hl).symm) (fun j v hj => by
      obtain ⟨x, hx, rfl⟩ : ∃ x, ds[j]? = some x ∧ .int .i64 x = v := by rw [List.getElem?_map] at hj; cases hx : ds[j]? with
        | none => rw [hx] at hj; cases hj
        | some x => rw [hx] at hj; exact ⟨x, rfl, Option.some.inj hj⟩
      have hjl := (List.getElem?_eq_some_iff.1 hx).1
      have := hcs j hjl
      rw [hx] at this
      have e : (⟨b, off, none⟩ : Addr).add j = ⟨b, off + j, none⟩ := by unfold Addr.add; split <;> simp_all
      rw [e]
      exact this) (by rw [List.length_map]; show 0 + ds.length ≤ 12; omega) (fun v hv => by obtain ⟨x, _, rfl⟩ := List.mem_map.1 hv; rfl)
  rw [keyArr_eq hl, List.length_map, ← HK.out] at hcp
  have hks : KA.size = 12 := by rw [HK.out]; exact keyArr_size hl
  have hall : KA.all (·.oneCell') = true := by rw [HK.out]; unfold keyArr; simp [Value.oneCell']
  have HP3 : Hid (Blk (W2.setRow (w.heap.size + 1) KA) (w.heap.size + 1) KA 82) := setRow_heap _ _ zer12 _ _ _ HP.out
  have HR3 : Hid (Blk (W2.setRow (w.heap.size + 1) KA) w.heap.size zer12 82) := (setRow_other _ _ _ _ (by omega)).trans HR.out
  have HW3 : Hid (Below w.heap.size w (W2.setRow (w.heap.size + 1) KA)) := below_setRowJ HW.out (by omega) _
  generalize hW3 : W2.setRow (w.heap.size + 1) KA = W3 at *
  have HLD := hid (loadAt_pile HP3.out hks)
  have HST := hid (storeAt_pile HR3.out hks rfl hall)
  have HR4 : Hid (Blk (W3.setRow w.heap.size KA) w.heap.size KA 82) := setRow_heap _ _ zer12 _ _ _ HR3.out
  have HW4 : Hid (Below w.heap.size w (W3.setRow w.heap.size KA)) := below_setRowJ HW3.out (Nat.le_refl _) _
  have HKS := hid hks
  clear HR HP HW hall hb hcs hW3 HK hks
  go_wp2_with (first
    | (refine wpList_load_row _ rfl _ 82 rfl (w.heap.size + 1) rfl _ HLD.out ?_)
    | (refine wpList_store_row _ rfl _ _ 82 rfl w.heap.size rfl _ rfl _ HST.out ?_))
  refine bodyPost_ret (results_cell1 rfl rfl (load_pile HR4.out HKS.out)) rfl ⟨rfl, HW4.out⟩

end Go.Proofs.Ytbjoblkigbphhaa
