/-
  Contract of the reference: Drifted.
-/
import Derived.Test.YtlhbgainpeehoaaR21e
import Derived.Deep.DeepAppendWide
namespace Go.Proofs.Ytlhbgainpeehoaa
set_option linter.unusedVariables false
open Go.RowKit

def RetFlow (T0 : TypeId) (w : World) (N : Nat) (r : Option Dr) (e : Ending) (w' : World) : Prop :=
  Below w.heap.size w w' ∧ ∃ b1 c1 b2 c2 a3 n3 c3 m ok, e = .returned (.tuple #[.agg #[.slice (some ⟨b1, 0, none⟩) N c1, .slice (some ⟨b2, 0, none⟩) N c2, .slice a3 n3 c3, .int .i64 m], .bool ok]) ∧ ok = r.isSome ∧
    ∀ s, r = some s → m = s.most ∧ w'.ownsRow w.heap.size T0 1 (.slice (some ⟨b1, 0, none⟩) N c1) N ((vecOf N s.L).map (Value.int .i64)) ∧ w'.ownsRow w.heap.size T0 1 (.slice (some ⟨b2, 0, none⟩) N c2) N ((vecOf N s.T).map (Value.int .i64))

theorem results_cell2 {P : Program} {fn : Func} {k j : Nat} {t : TypeId} (h : fn.results = #[.cell k t, .tmp j]) {tmps : Array Value} {b : Nat} {v : Value} {w : World} (ht : tmps[k]?.getD undef = .pointer (some ⟨b, 0, none⟩)) {u : Value} (hu : tmps[j]?.getD undef = u)
    (hl : (loadVar t ⟨b, 0, none⟩).run P w = .ok v w) : (results fn tmps).run P w = .ok (.tuple #[v, u]) w := by
  subst hu
  simp [results, h, ht, asAddr, hl]
theorem load_flow {w : World} {b : Nat} {v0 v1 v2 v3 : Value} (h : Blk w b #[v0, v1, v2, v3] 102) : (loadVar 102 ⟨b, 0, none⟩).run Try.prog w = .ok (.agg #[v0, v1, v2, v3]) w := by
  have hlt := h.lt
  have c0 := h.cell 0
  have c1 := h.cell 1
  have c2 := h.cell 2
  have c3 := h.cell 3
  simp only [List.getElem?_toArray, List.getElem?_cons_zero, List.getElem?_cons_succ] at c0 c1 c2 c3
  go_simp
theorem blkSet4 {w : World} {t : TypeId} {b : Nat} {u0 u1 u2 u3 v0 v1 v2 v3 : Value} (h : Blk w b #[u0, u1, u2, u3] t) :
    Blk ((((w.setCell ⟨b, 0, none⟩ v0).setCell ⟨b, 1, none⟩ v1).setCell ⟨b, 2, none⟩ v2).setCell ⟨b, 3, none⟩ v3) b #[v0, v1, v2, v3] t :=
  ((((h.set 0 v0).set 1 v1).set 2 v2).set 3 v3)
theorem ownSet4 {w : World} {b base g n cap : Nat} {e : TypeId} {xs : List Value} {v0 v1 v2 v3 : Value} (h : w.ownsRow base e 1 (.slice (some ⟨g, 0, none⟩) n cap) n xs) (hne : g ≠ b) :
    ((((w.setCell ⟨b, 0, none⟩ v0).setCell ⟨b, 1, none⟩ v1).setCell ⟨b, 2, none⟩ v2).setCell ⟨b, 3, none⟩ v3).ownsRow base e 1 (.slice (some ⟨g, 0, none⟩) n cap) n xs :=
  owns_other (owns_other (owns_other (owns_other h hne 0 v0) hne 1 v1) hne 2 v2) hne 3 v3
theorem gkcell {w w' : World} {B : Nat} (h : w.grownBy w' (some B)) : (∀ b o, b < w.heap.size → b ≠ B → w'.cell? ⟨b, o, none⟩ = w.cell? ⟨b, o, none⟩) ∧ (∀ b o, b < w.heap.size → b ≠ B → w'.frozen? ⟨b, o, none⟩ = w.frozen? ⟨b, o, none⟩) := by
  have hb : ∀ b, b < w.heap.size → b ≠ B → w'.heap[b]? = w.heap[b]? := fun b h1 h2 => h.block b h1 (fun e => h2 (Option.some.inj e))
  refine ⟨fun b o h1 h2 => World.cell?_of_block (hb b h1 h2), fun b o h1 h2 => ?_⟩
  unfold World.frozen?
  rw [hb b h1 h2]

/-- What is handed back is there when the result's cell is laid. -/
theorem ret_flow {T0 : TypeId} {B : Nat} {w W : World} {bx bl cl bt N : Nat} {wv : Value} {way : List Int} {most : Int} {L T : Nat → Int} (hF : Fl T0 B W bx bl cl bt N wv way most L T) (hB : Below w.heap.size w W) (hs : w.heap.size + 2 ≤ B) (v0 v1 v2 v3 : Value) :
    Below w.heap.size w ((((W.setCell ⟨w.heap.size + 1, 0, none⟩ v0).setCell ⟨w.heap.size + 1, 1, none⟩ v1).setCell ⟨w.heap.size + 1, 2, none⟩ v2).setCell ⟨w.heap.size + 1, 3, none⟩ v3) ∧
    ((((W.setCell ⟨w.heap.size + 1, 0, none⟩ v0).setCell ⟨w.heap.size + 1, 1, none⟩ v1).setCell ⟨w.heap.size + 1, 2, none⟩ v2).setCell ⟨w.heap.size + 1, 3, none⟩ v3).ownsRow w.heap.size T0 1 (.slice (some ⟨bl, 0, none⟩) N cl) N ((vecOf N L).map (Value.int .i64)) ∧
    ((((W.setCell ⟨w.heap.size + 1, 0, none⟩ v0).setCell ⟨w.heap.size + 1, 1, none⟩ v1).setCell ⟨w.heap.size + 1, 2, none⟩ v2).setCell ⟨w.heap.size + 1, 3, none⟩ v3).ownsRow w.heap.size T0 1 (.slice (some ⟨bt, 0, none⟩) N N) N ((vecOf N T).map (Value.int .i64)) := by
  have l1 := owns_lt hF.left
  have l2 := owns_lt hF.times
  refine ⟨(((hB.setCell ?_ _).setCell ?_ _).setCell ?_ _).setCell ?_ _, ownSet4 (owns_base hF.left (by omega)) (by omega), ownSet4 (owns_base hF.times (by omega)) (by omega)⟩ <;> (dsimp only; omega)

theorem wpList_app1L {P : Program} (wr : World) {ops : Array Oper} {rest : List Oper} {o : Oper} {a : Act} {Q : Exit → Act → World → Prop}
    (hgd : o.guard = none) (s xop : Operand) (t : TypeId) (ho : o.op = .call { callee := .builtin .append, args := #[s, xop], argTypes := #[t, t] })
    (e : TypeId) (ht : P.underlying t = some (.slice e)) (hinfo : (P.info? e).map (fun i => (i.zero, i.size, i.bytes)) = some (some (.int .i64 0), 1, 8))
    (base : Nat) (v : Value) (xs : List Int) (hown : wr.ownsRow base e 1 v xs.length (xs.map (Value.int .i64))) (x : Int) (B : Nat) (hBs : B = wr.heap.size)
    (hs : a.eval s = v) (hx : a.eval xop = .slice (some ⟨B, 0, none⟩) 1 1) (hlen : xs.length ≤ 1000000000000) (hbase : base ≤ wr.heap.size)
    (h : ∀ bn cn w', w'.ownsRow base e 1 (.slice (some ⟨bn, 0, none⟩) (xs.length + 1) cn) (xs ++ [x]).length ((xs ++ [x]).map (Value.int .i64)) → wr.grownBy w' v.ownBlock → (v.ownBlock = some bn ∨ wr.heap.size ≤ bn) → bn < w'.heap.size → wpList P ops Q rest (a.put o.dst (.slice (some ⟨bn, 0, none⟩) (xs.length + 1) cn)) w') :
    wpList P ops Q (o :: rest) a (wr.alloc (.cells #[.int .i64 x] e)) := by
  obtain ⟨i, hi, hz, hsz, hby⟩ := info_parts hinfo
  subst hBs
  refine wpList_append_lies _ hgd s xop t ho base e i (.int .i64 0) 1 8 ht hi hz hsz hby rfl (by decide) v xs.length _ hs (hown.alloc _) ⟨wr.heap.size, 0, none⟩ 1 1 [.int .i64 x] hx rfl (cell_one_new _ _ _) (by simp [Value.oneCell']) (by decide) (by unfold maxLen; omega) (by omega) (by simp; omega) (wr.heap.size + 1) (by simp) ?_
  intro bn cn w' hown' hgr hat hlt
  refine h bn cn w' (by simpa using hown') ?_ (hat.imp id (fun e => by omega)) hlt
  refine ⟨hgr.os, hgr.tape, hgr.output, by have := hgr.size; simp at this; omega, fun k hk hne => ?_⟩
  rw [hgr.block k (by simp; omega) hne]
  exact Below.heap_alloc _ _ _ hk
section
variable {T0 : TypeId} {base : Nat} {w w' : World} {bx bl cl bt N : Nat} {wv : Value} {way : List Int} {most : Int} {L T : Nat → Int}
theorem Fl.push (h : Fl T0 base w bx bl cl bt N wv way most L T) {bn cn n : Nat} {way' : List Int} (hn : n = way'.length) (ho : w'.ownsRow base T0 1 (.slice (some ⟨bn, 0, none⟩) n cn) way'.length (way'.map (Value.int .i64)))
    (hg : w.grownBy w' wv.ownBlock) (hat : wv.ownBlock = some bn ∨ w.heap.size ≤ bn) :
    Fl T0 base (w'.setCell ⟨bx, 2, none⟩ (.slice (some ⟨bn, 0, none⟩) n cn)) bx bl cl bt N (.slice (some ⟨bn, 0, none⟩) n cn) way' most L T := by
  have l1 := (owns_lt h.left).2
  have l2 := (owns_lt h.times).2
  have l3 := h.blk.lt
  refine h.newWay hg (fun k hk => h.sep k hk) ho fun k hk => ?_
  obtain rfl : bn = k := Option.some.inj hk
  rcases hat with e | e
  · exact h.sep bn e
  · omega
theorem Fl.pushB (h : Fl T0 base w bx bl cl bt N wv way most L T) {W1 : World} (hB : Below base W1 w) (hb : base ≤ w.heap.size) (hg : w.grownBy w' wv.ownBlock) (u : Value) : Below base W1 (w'.setCell ⟨bx, 2, none⟩ u) :=
  (hB.grown hg hb fun k hk => (h.way.lt k hk).1).setCell (by exact h.hb) _
theorem Fl.landed (h : Fl T0 base w bx bl cl bt N wv way most L T) (hB : Below w.heap.size w w') {wv' : Value} {way' : List Int} (ho : w'.ownsRow w.heap.size T0 1 wv' way'.length (way'.map (Value.int .i64))) (hb : base ≤ w.heap.size) :
    Fl T0 base (w'.setCell ⟨bx, 2, none⟩ wv') bx bl cl bt N wv' way' most L T := by
  have l1 := (owns_lt h.left).2
  have l2 := (owns_lt h.times).2
  have l3 := h.blk.lt
  exact (h.mono hB).newWay (r := none) ⟨rfl, rfl, rfl, Nat.le_refl _, fun _ _ _ => rfl⟩ (fun k hk => by cases hk) (owns_base ho hb) (fun k hk => by have := (ho.lt k hk).1; omega)
end
theorem owns_cap {w : World} {base size n m cap : Nat} {e : TypeId} {a : Addr} {xs : List Value} (h : w.ownsRow base e size (.slice (some a) m cap) n xs) : n ≤ cap := by
  rcases h.2 with ⟨h0, _⟩ | ⟨g, cap', cur, h0, _, _, h1, _⟩
  · cases h0
  · injection h0 with _ _ h3
    omega
theorem way_news {w : World} {base : Nat} {e : TypeId} {bw n c : Nat} {way : List Int} (ho : w.ownsRow base e 1 (.slice (some ⟨bw, 0, none⟩) n c) n (way.map (Value.int .i64))) (o : Nat) (l : List Int) (hl : ∀ j x, l[j]? = some x → way[o + j]? = some x) :
    ∀ (j : Nat) (u : Value), (l.map (Value.int .i64))[j]? = some u → w.cell? ((⟨bw, o, none⟩ : Addr).add j) = some u := by
  intro j u hj
  have e2 : (⟨bw, o, none⟩ : Addr).add j = ⟨bw, o + j, none⟩ := by unfold Addr.add; split <;> simp_all
  rw [List.getElem?_map, Option.map_eq_some_iff] at hj
  obtain ⟨x, hx, rfl⟩ := hj
  have h1 := hl j x hx
  have h2 : o + j < way.length := (List.getElem?_eq_some_iff.1 h1).1
  have h3 := ho.1
  rw [List.length_map] at h3
  rw [e2, ho.cellAt (o + j) (by omega), List.getElem?_map, h1]
  rfl

theorem fl_box {T0 : TypeId} {wb W : World} {N bx bl bt cl : Nat} {d : Nat → Int} (hO : wb.ownsRow W.heap.size T0 1 (.slice (some ⟨bl, 0, none⟩) N cl) N ((vecOf N d).map (Value.int .i64)))
    (hK : Blk wb bx #[.slice none 0 0, .slice none 0 0, .slice none 0 0, .int .i64 0] 102) (hZ : wb.ownsRow W.heap.size T0 1 (.slice (some ⟨bt, 0, none⟩) N N) N ((vecOf N fun _ => 0).map (Value.int .i64)))
    (h4 : W.heap.size ≤ bx) (h1 : bl ≠ bt) (h2 : bl ≠ bx) (h3 : bt ≠ bx) (hB : Below W.heap.size W wb) :
    ∃ bx' bl' cl' bt', (Value.pointer (some ⟨bx, 0, none⟩)) = .pointer (some ⟨bx', 0, none⟩) ∧
      Fl T0 W.heap.size ((((wb.setCell ⟨bx, 0, none⟩ (.slice (some ⟨bl, 0, none⟩) N cl)).setCell ⟨bx, 1, none⟩ (.slice (some ⟨bt, 0, none⟩) N N)).setCell ⟨bx, 2, none⟩ (.slice none 0 0)).setCell ⟨bx, 3, none⟩ (.int .i64 0)) bx' bl' cl' bt' N (.slice none 0 0) [] 0 d (fun _ => 0) ∧
      Below W.heap.size W ((((wb.setCell ⟨bx, 0, none⟩ (.slice (some ⟨bl, 0, none⟩) N cl)).setCell ⟨bx, 1, none⟩ (.slice (some ⟨bt, 0, none⟩) N N)).setCell ⟨bx, 2, none⟩ (.slice none 0 0)).setCell ⟨bx, 3, none⟩ (.int .i64 0)) :=
  ⟨bx, bl, cl, bt, rfl, ⟨blkSet4 hK, ownSet4 hO h2, ownSet4 hZ h3, World.ownsRow_nil _ _ _ _, h4, h1, h2, h3, fun k hk => by cases hk⟩, (((hB.setCell h4 _).setCell h4 _).setCell h4 _).setCell h4 _⟩

theorem fl_box2 {T0 : TypeId} {wb W : World} {N bx bl bt cl : Nat} {d : Nat → Int} (hO : wb.ownsRow W.heap.size T0 1 (.slice (some ⟨bl, 0, none⟩) N cl) N ((vecOf N d).map (Value.int .i64)))
    (hZ : wb.ownsRow W.heap.size T0 1 (.slice (some ⟨bt, 0, none⟩) N N) N ((vecOf N fun _ => 0).map (Value.int .i64))) (hx : bx = wb.heap.size) (h1 : bl ≠ bt) (hB : Below W.heap.size W wb) :
    ∃ bx' bl' cl' bt', (Value.pointer (some ⟨bx, 0, none⟩)) = .pointer (some ⟨bx', 0, none⟩) ∧
      Fl T0 W.heap.size (wb.alloc (.cells #[.slice (some ⟨bl, 0, none⟩) N cl, .slice (some ⟨bt, 0, none⟩) N N, .slice none 0 0, .int .i64 0] 102)) bx' bl' cl' bt' N (.slice none 0 0) [] 0 d (fun _ => 0) ∧
      Below W.heap.size W (wb.alloc (.cells #[.slice (some ⟨bl, 0, none⟩) N cl, .slice (some ⟨bt, 0, none⟩) N N, .slice none 0 0, .int .i64 0] 102)) := by
  subst hx
  have l1 := (owns_lt hO).2
  have l2 := (owns_lt hZ).2
  exact ⟨wb.heap.size, bl, cl, bt, rfl, ⟨Blk.new _ _ _, hO.alloc _, hZ.alloc _, World.ownsRow_nil _ _ _ _, hB.size, h1, by omega, by omega, fun k hk => by cases hk⟩, hB.alloc hB.size _⟩

theorem fl_box3 {wb W : World} {N bx bl bt cl : Nat} {d : Nat → Int} (hN : N ≤ 1000) (hO : wb.ownsRow W.heap.size 3 1 (.slice (some ⟨bl, 0, none⟩) N cl) N ((vecOf N d).map (Value.int .i64)))
    (hx : bx = wb.heap.size) (ht : bt = wb.heap.size + 1) (hB : Below W.heap.size W wb) :
    ∃ bx' bl' cl' bt', (Value.pointer (some ⟨bx, 0, none⟩)) = .pointer (some ⟨bx', 0, none⟩) ∧ Fl 3 W.heap.size ((wb.alloc (.cells #[.slice (some ⟨bl, 0, none⟩) N cl, .slice (some ⟨bt, 0, none⟩) N N, .slice none 0 0, .int .i64 0] 102)).alloc (.cells (zer N) 3)) bx' bl' cl' bt' N (.slice none 0 0) [] 0 d (fun _ => 0) ∧ Below W.heap.size W ((wb.alloc (.cells #[.slice (some ⟨bl, 0, none⟩) N cl, .slice (some ⟨bt, 0, none⟩) N N, .slice none 0 0, .int .i64 0] 102)).alloc (.cells (zer N) 3)) := by
  subst hx ht
  have l1 := (owns_lt hO).2
  have l0 := hB.size
  exact ⟨wb.heap.size, bl, cl, wb.heap.size + 1, rfl, ⟨(Blk.new _ _ _).alloc _, (hO.alloc _).alloc _, ownZ (by simp) (by simp; omega) hN, World.ownsRow_nil _ _ _ _, l0, by omega, by omega, by omega, fun k hk => by cases hk⟩, (hB.alloc l0 _).alloc (by simp; omega) _⟩
theorem fl_box4 {wb W : World} {N bx bl bt cl : Nat} {d : Nat → Int} (hN : N ≤ 1000) (hO : wb.ownsRow W.heap.size 3 1 (.slice (some ⟨bl, 0, none⟩) N cl) N ((vecOf N d).map (Value.int .i64)))
    (hK : Blk wb bx #[.slice none 0 0, .slice none 0 0, .slice none 0 0, .int .i64 0] 102) (h4 : W.heap.size ≤ bx) (ht : bt = wb.heap.size) (h2 : bl ≠ bx) (hB : Below W.heap.size W wb) :
    ∃ bx' bl' cl' bt', (Value.pointer (some ⟨bx, 0, none⟩)) = .pointer (some ⟨bx', 0, none⟩) ∧ Fl 3 W.heap.size (((((wb.setCell ⟨bx, 0, none⟩ (.slice (some ⟨bl, 0, none⟩) N cl)).setCell ⟨bx, 1, none⟩ (.slice (some ⟨bt, 0, none⟩) N N)).setCell ⟨bx, 2, none⟩ (.slice none 0 0)).setCell ⟨bx, 3, none⟩ (.int .i64 0)).alloc (.cells (zer N) 3)) bx' bl' cl' bt' N (.slice none 0 0) [] 0 d (fun _ => 0) ∧ Below W.heap.size W (((((wb.setCell ⟨bx, 0, none⟩ (.slice (some ⟨bl, 0, none⟩) N cl)).setCell ⟨bx, 1, none⟩ (.slice (some ⟨bt, 0, none⟩) N N)).setCell ⟨bx, 2, none⟩ (.slice none 0 0)).setCell ⟨bx, 3, none⟩ (.int .i64 0)).alloc (.cells (zer N) 3)) := by
  subst ht
  have l1 := (owns_lt hO).2
  have l2 := hK.lt
  have l0 := hB.size
  exact ⟨bx, bl, cl, wb.heap.size, rfl, ⟨(blkSet4 hK).alloc _, (ownSet4 hO h2).alloc _, ownZ (by simp) (by simp; omega) hN, World.ownsRow_nil _ _ _ _, h4, by omega, h2, by omega, fun k hk => by cases hk⟩, ((((hB.setCell h4 _).setCell h4 _).setCell h4 _).setCell h4 _).alloc (by simp; omega) _⟩

set_option maxRecDepth 100000 in
set_option maxHeartbeats 40000000 in
theorem r21_Drifted (g : G) (gv : Value) (N : Nat) (hN1 : (N : Int) ≤ g.n) (hN2 : g.n ≤ (N : Int)) (q : Int) (d : Nat → Int) (dv : Value) (picks : List Int) (pv : Value) (w : World)
    (hg : GrR w gv g) (hk : Gok g) (hd : IntsR w dv (vecOf N d)) (hp : IntsR w pv picks) (hpl : 0 < picks.length) (hpl2 : picks.length ≤ 100000) (hpp : ∀ k ∈ picks, 0 ≤ k) (hdb : ∀ u, u < N → -1048576 ≤ d u ∧ d u ≤ 1048576) :
    Calls Try.prog 58 #[gv, .int .i64 q, dv, pv] w (RetFlow 3 w N (drGo g q N picks maxF 0 ⟨d, fun _ => 0, [], 0⟩)) := by
  generalize hz : drGo g q N picks maxF 0 ⟨d, fun _ => 0, [], 0⟩ = z
  have hzz : Hid (drGo g q N picks (maxF - 0) 0 ⟨d, fun _ => 0, [], 0⟩ = z) := hz
  clear hz
  have hg' := hg
  obtain ⟨ev, rfl, _⟩ := hg'
  obtain ⟨hn1, hn2⟩ := hk.n
  obtain ⟨ad, cd, rfl, _, _, _, hcd⟩ := hd
  obtain ⟨ap, cp, rfl, _, _, _, hcp⟩ := hp
  have HLD := hid (vecOf_len N d)
  rw [HLD.out]
  obtain ⟨b, off, rfl, hb, _⟩ := hcd.int (by rw [HLD.out]; omega)
  obtain ⟨b', off', rfl, hb', hcs⟩ := hcp.int hpl
  go_enter Try.func58, Try.ntmps58
  go_upto_region 1 with fail
  obtain ⟨W0, hW0⟩ : ∃ W : World, W = ((w.alloc (.cells #[.int .i64 g.n, ev] 24)).alloc (.cells #[.slice none 0 0, .slice none 0 0, .slice none 0 0, .int .i64 0] 102)) := ⟨_, rfl⟩
  rw [← hW0]
  have e1 : W0.cell? ⟨w.heap.size, 0, none⟩ = some (.int .i64 g.n) := by rw [hW0]; simp
  have e2 : W0.cell? ⟨w.heap.size, 1, none⟩ = some ev := by rw [hW0]; simp
  have hBw0 : Below w.heap.size w W0 := by rw [hW0]; go_grown
  have hs0 : W0.heap.size = w.heap.size + 2 := by rw [hW0]; simp
  have hBk : Blk W0 (w.heap.size + 1) #[.slice none 0 0, .slice none 0 0, .slice none 0 0, .int .i64 0] 102 := by rw [hW0]; have := Blk.new (w.alloc (.cells #[.int .i64 g.n, ev] 24)) #[.slice none 0 0, .slice none 0 0, .slice none 0 0, .int .i64 0] 102; simpa using this
  clear hW0
  go_cut [10, 11] (fun s10 s11 W1 => ∃ go co bs av cv, s10 = .slice (some ⟨go, 0, none⟩) N co ∧ s11 = .slice (some ⟨av, 0, none⟩) N cv ∧ OwnM 25 3 W1 W0.heap.size (.slice (some ⟨go, 0, none⟩) N co) N N bs (rowsF g) ∧
    W1.ownsRow W0.heap.size 3 1 (.slice (some ⟨av, 0, none⟩) N cv) N ((vals g N).map (Value.int .i64)) ∧ Below W0.heap.size W0 W1)
  case first =>
    have h0 : Below W0.heap.size W0 W0.drew := below_dN (Below.refl _ _) 1
    have hgW : Hid (∀ W', Below W0.heap.size W0 W' → GrR W' (.agg #[.int .i64 g.n, ev]) g) := fun W' h => hg.below (hBw0.trans (h.mono (by omega)))
    have hRd : Hid (∀ W', Below W0.heap.size W0 W' → W'.cell? ⟨w.heap.size, 0, none⟩ = some (.int .i64 g.n) ∧ W'.cell? ⟨w.heap.size, 1, none⟩ = some ev) := fun W' h => ⟨(h.cell (p := ⟨w.heap.size, 0, none⟩) (by dsimp only; omega)).trans e1, (h.cell (p := ⟨w.heap.size, 1, none⟩) (by dsimp only; omega)).trans e2⟩
    go_region_held3 (fun w' => w'.cell? ⟨w.heap.size, 0, none⟩ = some (.int .i64 g.n) ∧ w'.cell? ⟨w.heap.size, 1, none⟩ = some ev)
      (exact hRd.out _ (by with_reducible assumption))
      (first
        | (go_at_call 83; refine (r19_Rows g _ N hN1 hN2 _ (hgW.out _ (by with_reducible assumption)) hk).mono ?_; rintro e w1 ⟨t, bs, rfl, hM, hB1⟩; have hX1 := bext (s := W0.heap.size) (W0 := W0) (by with_reducible assumption) (Nat.le_refl _) hB1)
        | (go_at_call 84; refine (r19_Valences g _ _ (hgW.out _ (by with_reducible assumption)) hk).mono ?_; rintro e w2 ⟨vv, rfl, hV, hB2⟩; have hX2 := bext (s := W0.heap.size) (W0 := W0) (by with_reducible assumption) (Nat.le_refl _) hB2))
    all_goals
      obtain ⟨go, co, rfl, _, _⟩ := owns_some hM.outer (by omega)
      have hVl : (vals g g.n.toNat).length = N := by unfold vals; rw [vecOf_len]; omega
      have hVN : vals g g.n.toNat = vals g N := by rw [show g.n.toNat = N by omega]
      rw [hVl, hVN] at hV
      obtain ⟨av, cv, rfl, _, _⟩ := owns_some hV (by omega)
      go_wp2_with fail
      go_meet
      have hs1 := hX1.size
      have hs2 := hX2.size
      (try simp only [World.size_drew] at hs1 hs2)
      exact ⟨go, co, bs, av, cv, rfl, rfl, by first | exact hM.rebase (by simp; omega) | exact (hM.below hB2).rebase (by simp; omega) | exact hM.rebase (by simp) | exact (hM.below hB2).rebase (by simp), by first | exact owns_base hV (by omega) | exact owns_base (owns_below hV hB1) (by omega) | exact owns_base hV (by simp; omega), by first | exact hX2 | exact hX1⟩
  case rest =>
    obtain ⟨go, co, bs, av, cv, rfl, rfl, hM, hV, hB1⟩ := hcut
    obtain ⟨W1, rfl⟩ : ∃ W : World, W = wc := ⟨_, rfl⟩
    have hs1 := hB1.size
    have hBw : Below w.heap.size w W1 := hBw0.trans (hB1.mono (by omega))
    have hR1 : Hid (Blk W1 (w.heap.size + 1) #[.slice none 0 0, .slice none 0 0, .slice none 0 0, .int .i64 0] 102) := hBk.below hB1
    have f1 := (hB1.cell (p := ⟨w.heap.size, 0, none⟩) (by dsimp only; omega)).trans e1
    have hga : w.heap.size + 2 ≤ W1.heap.size := by omega
    have HGA := hid hga
    clear hBk e1 e2 hBw0 hs0 hs1
    have hcd1 := hid (hcd.below hBw)
    have hb1 : b < W1.heap.size := by omega
    have hmk := run_zer (P := Try.prog) 33 3 Try.underScript Try.infoInt g.n N hN1 hN2 (by omega)
    obtain ⟨i0, hi, hz0, hz1, hz2⟩ := info_parts Try.infoInt
    go_upto_region 2 with fail
    go_cut [12] (fun s12 W2 => ∃ bx bl cl bt, s12 = .pointer (some ⟨bx, 0, none⟩) ∧ Fl 3 W1.heap.size W2 bx bl cl bt N (.slice none 0 0) [] 0 d (fun _ => 0) ∧ Below W1.heap.size W1 W2)
    case first =>
      have hN1000 : N ≤ 1000 := by omega
      have z1 : W1.heap.size < W1.heap.size + 1 + 1 := by omega
      have z2 : W1.heap.size < W1.heap.size + 1 + 1 + 1 := by omega
      have z3 : W1.heap.size + 1 < W1.heap.size + 1 + 1 + 1 := by omega
      have z4 : W1.heap.size + 1 + 1 < W1.heap.size + 1 + 1 + 1 := by omega
      have y1 : ¬ (W1.heap.size + 1 = W1.heap.size) := by omega
      have y2 : ¬ (W1.heap.size + 1 + 1 = W1.heap.size) := by omega
      have y3 : ¬ (W1.heap.size + 1 + 1 = W1.heap.size + 1) := by omega
      have y4 : ¬ (W1.heap.size = W1.heap.size + 1) := by omega
      have y5 : ¬ (W1.heap.size = W1.heap.size + 1 + 1) := by omega
      have y6 : ¬ (W1.heap.size + 1 = W1.heap.size + 1 + 1) := by omega
      have hRd : Hid (∀ W', Below W1.heap.size W1 W' → W'.cell? ⟨w.heap.size, 0, none⟩ = some (.int .i64 g.n)) := fun W' h => (h.cell (p := ⟨w.heap.size, 0, none⟩) (by have := HGA.out; dsimp only; omega)).trans f1
      have hNw : Hid (∀ W', Below W1.heap.size W1 W' → ∀ (j : Nat) (u : Value), ((vecOf N d).map (Value.int .i64))[j]? = some u → W'.cell? ((⟨b, off, none⟩ : Addr).add j) = some u) := fun W' h j u hj => (hcd1.out.below h).news j u hj
      clear hga
      go_region_held3 (fun w' => w'.cell? ⟨w.heap.size, 0, none⟩ = some (.int .i64 g.n))
        ((refine hRd.out _ ?_; (repeat (first | with_reducible assumption | with_reducible exact Below.refl _ _ | with_reducible refine balloc ?_ _ | with_reducible refine Below.drew ?_ | (with_reducible refine bset ?_ ?_ _; rotate_left; (dsimp only; omega))))))
        ((refine step_append_lies _ (by rfl) (.tmp 24) (.tmp 25) 26 (by rfl) W1.heap.size 3 i0 _ 1 8 Try.underDiv hi hz0 hz1 hz2 rfl (by decide) _ _ _ (by rfl) (owns_empty W1.heap.size (by (simp only [heap_drew]; first | (refine heap_new' _ _ _ ?_; (first | rfl | omega | (simp only [World.size_alloc]; done) | (simp only [World.size_alloc]; omega))) | (refine (heap_old _ _ _ ?_).trans (heap_new' _ _ _ ?_) <;> (first | rfl | omega | (simp only [World.size_alloc]; done) | (simp only [World.size_alloc]; omega))) | (refine (heap_old _ _ _ ?_).trans ((heap_old _ _ _ ?_).trans (heap_new' _ _ _ ?_)) <;> (first | rfl | omega | (simp only [World.size_alloc]; done) | (simp only [World.size_alloc]; omega))))) (by go_size)) ⟨b, off, none⟩ N cd ((vecOf N d).map (Value.int .i64)) (by rfl) (by simp [HLD.out]) (hNw.out _ (by (repeat (first | with_reducible assumption | with_reducible exact Below.refl _ _ | with_reducible refine balloc ?_ _ | with_reducible refine Below.drew ?_)))) (ints_oneCell' _) (by omega) (by unfold maxLen; omega) (by omega) (by go_size) _ rfl ?_; intro bl cl w2 hown hgrow hat hlt; have hX := (by (repeat (first | with_reducible assumption | with_reducible exact Below.refl _ _ | with_reducible refine balloc ?_ _ | with_reducible refine Below.drew ?_)) : Below W1.heap.size W1 _).grown hgrow (by go_size) (fun k hk => by simp [Value.ownBlock] at hk; omega); obtain ⟨r1, r2⟩ := gkcell hgrow; (try simp only [World.size_alloc, World.size_drew] at r1 r2 hat); (have r1 := fun b o h1 (h2 : ¬ (b = _)) => r1 b o h1 h2); (have r2 := fun b o h1 (h2 : ¬ (b = _)) => r2 b o h1 h2); have hXs := hX.size; have hgs := hgrow.size; (try simp only [World.size_alloc, World.size_drew] at hgs); have hlA := fun b h => Nat.lt_of_lt_of_le (n := b) h hgs; have hlB := fun b j h => Nat.lt_of_lt_of_le (n := b) h (Nat.le_trans hgs (Nat.le_add_right _ j))))
      all_goals
        go_wp2_with fail
        go_meet
        simp only [Nat.zero_add, List.nil_append] at hown
        simp only [Value.ownBlock, Option.some.injEq] at hat
        first
          | refine fl_box (wb := _) (N := N) ?_ ?_ ?_ ?_ ?_ ?_ ?_ ?_
            · (repeat (first | (with_reducible exact hown) | (with_reducible refine World.ownsRow.alloc ?_ _) | (with_reducible refine World.ownsRow.drew ?_)))
            · (repeat (first | ((with_reducible refine Blk.grown ?_ hgrow ?_); rotate_left; (focus (simp only [Value.ownBlock, ne_eq, Option.some.injEq]; omega))) | ((with_reducible refine blkNew ?_); (first | (with_reducible rfl) | omega | (simp only [World.size_alloc]; done) | (simp only [World.size_alloc]; omega))) | (with_reducible refine Blk.alloc ?_ _) | (with_reducible refine blkDrew ?_)))
            · (repeat (first | ((with_reducible refine World.ownsRow.kept ?_ hgrow (.inr ?_)); rotate_left; (focus (simp only [Value.ownBlock, ne_eq, Option.some.injEq]; omega))) | ((with_reducible refine ownZ ?_ ?_ hN1000) <;> (first | (with_reducible rfl) | omega | (simp only [World.size_alloc]; done) | (simp only [World.size_alloc]; omega))) | (with_reducible refine World.ownsRow.alloc ?_ _) | (with_reducible refine World.ownsRow.drew ?_)))
            · omega
            · omega
            · omega
            · omega
            · (repeat (first | (with_reducible assumption) | (with_reducible exact Below.refl _ _) | (with_reducible refine balloc ?_ _) | (with_reducible refine Below.drew ?_)))
          | refine fl_box2 (wb := _) (N := N) ?_ ?_ ?_ ?_ ?_
            · (repeat (first | (with_reducible exact hown) | (with_reducible refine World.ownsRow.alloc ?_ _) | (with_reducible refine World.ownsRow.drew ?_)))
            · (repeat (first | ((with_reducible refine World.ownsRow.kept ?_ hgrow (.inr ?_)); rotate_left; (focus (simp only [Value.ownBlock, ne_eq, Option.some.injEq]; omega))) | ((with_reducible refine ownZ ?_ ?_ hN1000) <;> (first | (with_reducible rfl) | omega | (simp only [World.size_alloc]; done) | (simp only [World.size_alloc]; omega))) | (with_reducible refine World.ownsRow.alloc ?_ _) | (with_reducible refine World.ownsRow.drew ?_)))
            · (first | rfl | omega | (simp only [World.size_alloc]; done) | (simp only [World.size_alloc]; omega))
            · omega
            · (repeat (first | (with_reducible assumption) | (with_reducible exact Below.refl _ _) | (with_reducible refine balloc ?_ _) | (with_reducible refine Below.drew ?_)))
          | refine fl_box3 (wb := _) (N := N) hN1000 ?_ ?_ ?_ ?_
            · (repeat (first | (with_reducible exact hown) | (with_reducible refine World.ownsRow.alloc ?_ _) | (with_reducible refine World.ownsRow.drew ?_)))
            · (first | rfl | omega | (simp only [World.size_alloc]; done) | (simp only [World.size_alloc]; omega))
            · (first | rfl | omega | (simp only [World.size_alloc]; done) | (simp only [World.size_alloc]; omega))
            · (repeat (first | (with_reducible assumption) | (with_reducible exact Below.refl _ _) | (with_reducible refine balloc ?_ _) | (with_reducible refine Below.drew ?_)))
          | refine fl_box4 (wb := _) (N := N) hN1000 ?_ ?_ ?_ ?_ ?_ ?_
            · (repeat (first | (with_reducible exact hown) | (with_reducible refine World.ownsRow.alloc ?_ _) | (with_reducible refine World.ownsRow.drew ?_)))
            · (repeat (first | ((with_reducible refine Blk.grown ?_ hgrow ?_); rotate_left; (focus (simp only [Value.ownBlock, ne_eq, Option.some.injEq]; omega))) | ((with_reducible refine blkNew ?_); (first | (with_reducible rfl) | omega | (simp only [World.size_alloc]; done) | (simp only [World.size_alloc]; omega))) | (with_reducible refine Blk.alloc ?_ _) | (with_reducible refine blkDrew ?_)))
            · omega
            · (first | rfl | omega | (simp only [World.size_alloc]; done) | (simp only [World.size_alloc]; omega))
            · omega
            · (repeat (first | (with_reducible assumption) | (with_reducible exact Below.refl _ _) | (with_reducible refine balloc ?_ _) | (with_reducible refine Below.drew ?_)))
    case rest =>
      obtain ⟨bx, bl, cl, bt, rfl, hF, hB2⟩ := hcut
      obtain ⟨W2, rfl⟩ : ∃ W : World, W = wc := ⟨_, rfl⟩
      have hvl : (vals g N).length = N := by unfold vals; rw [vecOf_len]
      have hvg : ∀ v, v < N → (vals g N)[v]?.getD 0 = valence g v := fun v h => vecOf_get _ _ _ h
      have HVL := hid hvl
      have HVG := hid hvg
      have HNT : Hid (∀ f : Nat → Int, (vecOf N f).length = N) := fun f => vecOf_len _ _
      have HMV : Hid (OwnM 25 3 W1 W0.heap.size (.slice (some ⟨go, 0, none⟩) N co) N N bs (rowsF g) ∧ W1.ownsRow W0.heap.size 3 1 (.slice (some ⟨av, 0, none⟩) N cv) N ((vals g N).map (Value.int .i64))) := ⟨hM, hV⟩
      have hcs1 : Hid (∀ i, i < picks.length → W1.cell? ⟨b', off' + i, none⟩ = some (.int .i64 (picks[i]?.getD 0))) := fun i h => (hBw.cell (p := ⟨b', off' + i, none⟩) hb').trans (hcs i h)
      have hb1' : b' < W1.heap.size := by have := hBw.size; omega
      have HK := hid hk
      have HPP := hid hpp
      have HBW := hid hBw
      clear hvl hvg hmk hM hV hcs hcd hcd1 hcp hg hb hk hpp hB1
      have hwait : Hid (∀ (L : Nat → Int) (W' : World), Below W1.heap.size W1 W' → W'.ownsRow W1.heap.size 3 1 (.slice (some ⟨bl, 0, none⟩) N cl) N ((vecOf N L).map (Value.int .i64)) →
          Calls Try.prog 85 #[.slice (some ⟨av, 0, none⟩) N cv, .int .i64 q, .slice (some ⟨bl, 0, none⟩) N cl] W' fun e w'' => ∃ v, e = .returned v ∧
            w''.ownsRow W1.heap.size 3 1 v (waitN g q N L).length ((waitN g q N L).map (Value.int .i64)) ∧ Below W'.heap.size W' w'') := fun L W' hb hl => by
        refine (r21_waiting (vals g N) _ q (vecOf N L) _ W' (owns_intsN (owns_below HMV.out.2 hb) HVL.out (by omega)) (owns_intsN hl (HNT.out L) (by omega)) (by rw [HVL.out, HNT.out L]; exact Nat.le_refl _) (by rw [HNT.out L]; omega)).mono ?_
        rintro e w'' ⟨v, rfl, ho, hb''⟩
        rw [HNT.out L, waitN_eq g q N _ L HVG.out] at ho
        exact ⟨v, rfl, owns_base ho hb.size, hb''⟩
      have ok0 : okD N 0 ⟨d, fun _ => 0, [], 0⟩ := ⟨fun u hu => by have := hdb u hu; dsimp only; omega, fun u hu => by dsimp only; omega, Nat.zero_le _, fun v hv => (by cases hv), Int.le_refl _, by dsimp only; omega⟩
      have hmf : Hid ((maxF : Int) = 1048576) := maxF_eq
      have HF0 := hid hF
      have HB0 := hid hB2
      clear hF hB2
      go_wp2
      go_loopw [13] (fun i wr => ∃ (k : Nat) (s : Dr) (wv : Value), k ≤ maxF ∧ i = .int .i64 k ∧ Hid (okD N k s) ∧ Hid (Fl 3 W1.heap.size wr bx bl cl bt N wv s.way s.most s.L s.T) ∧ Hid (Below W1.heap.size W1 wr) ∧ Hid (drGo g q N picks (maxF - k) k s = z)) (fun i _ => maxF - (intOf i).toNat)
      case atStart => exact ⟨0, _, _, Nat.zero_le _, rfl, ok0, HF0, HB0, hzz⟩
      case round =>
        clear ok0 HF0 HB0
        obtain ⟨k, s, wv, hk', rfl, HOK, HF, HB, HZ⟩ := hrel
        obtain ⟨aw, cw, rfl⟩ := owns_slice HF.out.way
        have q0 := HF.out.blk.cell 0
        simp only [List.getElem?_toArray, List.getElem?_cons_zero] at q0
        go_wp2_with fail
        refine (hwait.out s.L _ HB.out HF.out.left).mono ?_
        rintro e W3 ⟨wv2, rfl, hw, hB3⟩
        obtain ⟨ax, cx, rfl⟩ := owns_slice hw
        have HF3 : Hid (Fl 3 W1.heap.size W3 bx bl cl bt N (.slice aw s.way.length cw) s.way s.most s.L s.T) := HF.out.mono hB3
        have HB3 : Hid (Below W1.heap.size W1 W3) := HB.out.trans (hB3.mono HB.out.size)
        have HW3 := hid hw
        have hR3 : Blk W3 (w.heap.size + 1) #[.slice none 0 0, .slice none 0 0, .slice none 0 0, .int .i64 0] 102 := hR1.out.below HB3.out
        have HR3 := hid hR3
        clear q0 HF HB hw hB3 hR3 wr
        have p0 := HF3.out.blk.cell 0
        have p1 := HF3.out.blk.cell 1
        have p2 := HF3.out.blk.cell 2
        have p3 := HF3.out.blk.cell 3
        have px := fun j => HF3.out.blk.frozen j
        have hbx := HF3.out.blk.lt
        simp only [List.getElem?_toArray, List.getElem?_cons_zero, List.getElem?_cons_succ] at p0 p1 p2 p3
        have hwl := waitN_len g q N s.L
        have hyl : s.way.length ≤ 700 * 1048576 := by have := HOK.out.2.2.1; have := hmf.out; omega
        have rr0 := HR3.out.cell 0
        have rr1 := HR3.out.cell 1
        have rr2 := HR3.out.cell 2
        have rr3 := HR3.out.cell 3
        have rf := fun j => HR3.out.frozen j
        have hrl := HR3.out.lt
        simp only [List.getElem?_toArray, List.getElem?_cons_zero, List.getElem?_cons_succ] at rr0 rr1 rr2 rr3
        have HRT := hid (ret_flow HF3.out (HBW.out.trans (HB3.out.mono HBW.out.size)) HGA.out (.slice (some ⟨bl, 0, none⟩) N cl) (.slice (some ⟨bt, 0, none⟩) N N) (.slice aw s.way.length cw) (.int .i64 s.most))
        by_cases h0 : dCnt g q N s = 0
        · have hz2 : Hid (some s = z) := by
            have := HZ.out
            unfold drGo at this
            rw [chGo_done _ _ _ _ _ _ h0] at this
            exact this
          unfold dCnt at h0
          have hw0 : (waitN g q N s.L).length = 0 := by omega
          have hy0 : s.way.length = 0 := by omega
          rw [hy0] at p2 HRT
          rw [hw0]
          clear hw0 hy0 h0 hwl hyl
          go_wp2
          refine bodyPost_ret (results_cell2 rfl rfl rfl (load_flow (blkSet4 HR3.out))) rfl ?_
          refine ⟨HRT.out.1, bl, cl, bt, N, aw, 0, cw, s.most, true, rfl, by rw [← hz2.out]; rfl, fun s' hs' => ?_⟩
          rw [← hz2.out] at hs'
          obtain rfl := Option.some.inj hs'
          exact ⟨rfl, HRT.out.2.1, HRT.out.2.2⟩
        · by_cases hkm : k = maxF
          · have hz2 : Hid (none = z) := by
              have := HZ.out
              unfold drGo at this
              rw [hkm, Nat.sub_self, chGo_over _ _ _ _ _ h0] at this
              exact this
            unfold dCnt at h0
            have hkb : ((k : Int) == 1048576) = true := by rw [hkm, hmf.out]; rfl
            obtain ⟨n, hn⟩ : ∃ n : Nat, n = (waitN g q N s.L).length + s.way.length := ⟨_, rfl⟩
            have ww : IntKind.i64.wrap (((waitN g q N s.L).length : Int) + (s.way.length : Int)) = (n : Int) := by rw [IntWalk.i64_in _ (by omega)]; omega
            have hn0 : ((n : Int) == 0) = false := by rw [beq_eq_false_iff_ne]; omega
            have hn00 : ¬ n = 0 := by omega
            clear hn h0 hkm
            go_wp2
            refine bodyPost_ret (results_cell2 rfl rfl rfl (load_flow (blkSet4 HR3.out))) rfl ?_
            refine ⟨HRT.out.1, bl, cl, bt, N, aw, _, cw, s.most, false, rfl, by rw [← hz2.out]; rfl, fun s' hs' => ?_⟩
            rw [← hz2.out] at hs'
            cases hs'
          · clear rr0 rr1 rr2 rr3 rf hrl HRT HR3
            have hkm' : k < maxF := by omega
            have hz2 : Hid (drGo g q N picks (maxF - (k + 1)) (k + 1) (dNxt g q N s (pickAt picks k % (dCnt g q N s : Int)).toNat) = z) := by
              have := HZ.out
              unfold drGo at this
              rw [chGo_step _ _ _ _ _ h0 hkm'] at this
              exact this
            have hkb : ((k : Int) == 1048576) = false := by have := hmf.out; rw [beq_eq_false_iff_ne]; omega
            have hk20 : (k : Int) < 1048576 := by have := hmf.out; omega
            have HKM : Hid (k < maxF) := hkm'
            clear hk' hkm'
            have hkw : IntKind.i64.wrap ((k : Int) + 1) = (k : Int) + 1 := IntWalk.i64_in _ (by omega)
            have HK20 := hid hk20
            clear hk20
            have hkl : k % picks.length < picks.length := Nat.mod_lt _ hpl
            have c1 : W3.cell? ⟨b', off' + k % picks.length, none⟩ = some (.int .i64 (pickAt picks k)) := (HB3.out.cell (p := ⟨b', off' + k % picks.length, none⟩) hb1').trans (hcs1.out _ hkl)
            have hpk := pickAt_nn picks HPP.out k
            have hmod1 := Int.emod_lt_of_pos (pickAt picks k) (show (0 : Int) < ((dCnt g q N s : Nat) : Int) by omega)
            have hmod2 := Int.emod_nonneg (pickAt picks k) (show ((dCnt g q N s : Nat) : Int) ≠ 0 by omega)
            obtain ⟨j, hj⟩ := Int.eq_ofNat_of_zero_le hmod2
            rw [hj, Int.toNat_natCast] at hz2
            rw [hj] at hmod1
            have hpm : (pickAt picks k).tmod ((dCnt g q N s : Nat) : Int) = (j : Int) := by rw [Int.tmod_eq_emod_of_nonneg hpk, hj]
            have hmd : (k : Int).tmod (picks.length : Int) = ((k % picks.length : Nat) : Int) := (Int.ofNat_tmod k picks.length).symm
            have hpne : ¬ picks = [] := by rintro rfl; simp at hpl
            have hdc : dCnt g q N s = (waitN g q N s.L).length + s.way.length := rfl
            have hkl1 : ((k % picks.length : Nat) : Int) < (picks.length : Int) := by omega
            have hkl0 : (0 : Int) ≤ ((k % picks.length : Nat) : Int) := by omega
            clear hj hmod2
            generalize dCnt g q N s = n at *
            generalize pickAt picks k = p at *
            generalize k % picks.length = kl at *
            have ww : IntKind.i64.wrap (((waitN g q N s.L).length : Int) + (s.way.length : Int)) = (n : Int) := by rw [IntWalk.i64_in _ (by omega)]; omega
            have hn0 : ((n : Int) == 0) = false := by rw [beq_eq_false_iff_ne]; omega
            have hn00 : ¬ n = 0 := by omega
            by_cases hge : (waitN g q N s.L).length ≤ j
            · obtain ⟨jj, hjj⟩ : ∃ jj, jj = j - (waitN g q N s.L).length := ⟨_, rfl⟩
              have hjy : jj < s.way.length := by omega
              have hdn : dNxt g q N s j = dLand s jj := by unfold dNxt; rw [if_pos hge, hjj]
              rw [hdn] at hz2
              have wjj : IntKind.i64.wrap ((j : Int) - ((waitN g q N s.L).length : Int)) = (jj : Int) := by rw [IntWalk.i64_in _ (by omega)]; omega
              have hge' : ((waitN g q N s.L).length : Int) ≤ (j : Int) := by omega
              have hge'' : ¬ (j : Int) < ((waitN g q N s.L).length : Int) := by omega
              obtain ⟨bw, cw2, hbv, hbw1, hbw2⟩ := owns_some HF3.out.way (by omega)
              injection hbv with e1 e2 e3
              subst e1 e3
              clear e2
              have hmem : s.way[jj]?.getD 0 ∈ s.way := by rw [List.getElem?_eq_getElem hjy]; exact List.getElem_mem hjy
              have hv := HOK.out.2.2.2.1 _ hmem
              obtain ⟨v, hve⟩ := Int.eq_ofNat_of_zero_le hv.1
              have hvN : v < N := by omega
              have cj := owns_int HF3.out.way jj hjy
              rw [hve] at cj
              have cv' := owns_int HF3.out.left v hvN
              rw [vecOf_get _ _ _ hvN] at cv'
              have fv := HF3.out.left.frozenAt v
              have hLb := HOK.out.1 v hvN
              have hlv := (owns_lt HF3.out.left).2
              have wx : IntKind.i64.wrap (s.L v + 1) = s.L v + 1 := IntWalk.i64_in _ (by have := HK20.out; omega)
              have hv1 : (v : Int) < (N : Int) := by omega
              have hjj1 : (jj : Int) < (s.way.length : Int) := by omega
              have hjj0 : (0 : Int) ≤ (jj : Int) := by omega
              have hdl : Hid (dLand s jj = ⟨fun u => if u = v then s.L v + 1 else s.L u, s.T, s.way.eraseIdx jj, s.most⟩) := by show _ = _; unfold dLand; rw [hve, Int.toNat_natCast]
              clear hdn hjj hdc hmem hv hve hkm h0 hge
              generalize hWl : (waitN g q N s.L).length = wl at *
              clear hWl
              go_upto_region 14 with fail
              let S : World → Prop := fun w' => w'.cell? ⟨bx, 0, none⟩ = some (.slice (some ⟨bl, 0, none⟩) N cl) ∧ w'.cell? ⟨bx, 2, none⟩ = some (.slice (some ⟨bw, 0, none⟩) s.way.length cw) ∧ w'.cell? ⟨bw, jj, none⟩ = some (.int .i64 v) ∧ w'.cell? ⟨bl, v, none⟩ = some (.int .i64 (s.L v))
              (refine wp_region_text 11 [0,1,2,3,4,5,6,7,8,9,10] S (by kernel_rfl) (by kernel_rfl) (by intro _ _ d _ _ h; cases d <;> exact h) ?hS ?_; rotate_left; simp only [List.map_cons, List.map_nil, List.getD_cons_zero, List.getD_cons_succ, List.drop_succ_cons, List.drop_zero])
              case hS => exact ⟨p0, p2, cj, cv'⟩
              (repeat (refine' wpSeq_take rfl _ (by rfl) ?_ ?_; rotate_left; focus (intro w' hS; (try dsimp only at hS); obtain ⟨s1, s2, s3, s4⟩ := hS; go_simp; (first | done | with_reducible rfl)); (try simp only [Act.put, List.setIfInBounds_toArray, List.set_cons_zero, List.set_cons_succ])))
              refine wpSeq_nil ?_
              clear S
              go_upto_region 15 with fail
              obtain ⟨W4, hW4⟩ : ∃ W : World, W = (W3.setCell ⟨bl, v, none⟩ (.int .i64 (s.L v + 1))).drew := ⟨_, rfl⟩
              have hF4 : Fl 3 W1.heap.size W4 bx bl cl bt N (.slice (some ⟨bw, 0, none⟩) s.way.length cw) s.way s.most (fun u => if u = v then s.L v + 1 else s.L u) s.T := by rw [hW4]; exact (HF3.out.setL v _).drew
              have hB4 : Below W1.heap.size W1 W4 := by rw [hW4]; exact (HB3.out.setCell (p := ⟨bl, v, none⟩) (owns_lt HF3.out.left).1 _).drew
              rw [← hW4]
              have HF4 := hid hF4
              have HB4 := hid hB4
              have m2 := hF4.blk.cell 2
              simp only [List.getElem?_toArray, List.getElem?_cons_zero, List.getElem?_cons_succ] at m2
              have hbwl := (owns_lt hF4.way).2
              have hbxl := hF4.blk.lt
              clear hW4 hF4 hB4 cj cv' fv hLb wx p0 p1 p2 p3 px HF3 HB3
              have wj1 : IntKind.i64.wrap ((jj : Int) + 1) = (jj : Int) + 1 := IntWalk.i64_in _ (by omega)
              have hcwl : s.way.length ≤ cw := owns_cap HF4.out.way
              have hcw1 : (jj : Int) ≤ (cw : Int) := by omega
              have hjl1 : (jj : Int) + 1 ≤ (s.way.length : Int) := by omega
              have hjl0 : (0 : Int) ≤ (jj : Int) + 1 := by omega
              let S : World → Prop := fun w' => w'.cell? ⟨bx, 2, none⟩ = some (.slice (some ⟨bw, 0, none⟩) s.way.length cw)
              (refine wp_region_text 13 [1,2,3,4,6,7,8,9,10,0,5,11,12] S (by kernel_rfl) (by kernel_rfl) (by intro _ _ d _ _ h; cases d <;> exact h) ?hS ?_; rotate_left; simp only [List.map_cons, List.map_nil, List.getD_cons_zero, List.getD_cons_succ, List.drop_succ_cons, List.drop_zero])
              case hS => exact m2
              (repeat (refine' wpSeq_take rfl _ (by rfl) ?_ ?_; rotate_left; focus (intro w' hS; (try dsimp only at hS); have s1 : w'.cell? ⟨bx, 2, none⟩ = some (.slice (some ⟨bw, 0, none⟩) s.way.length cw) := hS; go_simp; (first | done | with_reducible rfl)); (try simp only [Act.put, List.setIfInBounds_toArray, List.set_cons_zero, List.set_cons_succ])))
              obtain ⟨o2, ho2, ho2'⟩ : ∃ o2 : Nat, (if cw = jj + 1 then some (⟨bw, 0, none⟩ : Addr) else some ⟨bw, jj + 1, none⟩) = some ⟨bw, o2, none⟩ ∧ (o2 = jj + 1 ∨ s.way.length = jj + 1) := by
                by_cases h : cw = jj + 1
                · exact ⟨0, if_pos h, .inr (by omega)⟩
                · exact ⟨jj + 1, if_neg h, .inl rfl⟩
              rw [ho2]
              clear ho2
              obtain ⟨i1, hj1, hy0, hy1, hy2⟩ := info_parts Try.infoInt
              have hk1 : Below W4.heap.size W4 (W4.drew.alloc (.cells #[] 3)) := (Below.refl _ _).drew.alloc (Nat.le_refl _) _
              have hS1 : S (W4.drew.alloc (.cells #[] 3)) := (hk1.cell (p := ⟨bx, 2, none⟩) hbxl).trans m2
              refine wpSeq_call rfl (by rfl) (fun K hK => ?_)
              go_simp
              refine hK _ _ hS1 ?_
              clear hK K
              have how1 : (W4.drew.alloc (.cells #[] 3)).ownsRow W4.heap.size 3 1 (.slice (some ⟨W4.heap.size, 0, none⟩) 0 0) 0 [] := owns_empty W4.heap.size (by first | (simp only [heap_drew]; first | (refine heap_new' _ _ _ ?_; (first | rfl | omega | (simp only [World.size_alloc, World.size_drew]; done) | (simp only [World.size_alloc, World.size_drew]; omega))) | (refine (heap_old _ _ _ ?_).trans (heap_new' _ _ _ ?_) <;> (first | rfl | omega | (simp only [World.size_alloc, World.size_drew]; done) | (simp only [World.size_alloc, World.size_drew]; omega))) | (refine (heap_old _ _ _ ?_).trans ((heap_old _ _ _ ?_).trans (heap_new' _ _ _ ?_)) <;> (first | rfl | omega | (simp only [World.size_alloc, World.size_drew]; done) | (simp only [World.size_alloc, World.size_drew]; omega)))) | (refine heap_new' _ _ _ ?_; (first | rfl | omega | (simp only [World.size_alloc, World.size_drew]; done) | (simp only [World.size_alloc, World.size_drew]; omega)))) (by go_size)
              have hn1' := hid (way_news (owns_below HF4.out.way hk1) 0 (s.way.take jj) (fun j x h => by rw [List.getElem?_take] at h; rw [Nat.zero_add]; split at h <;> first | exact h | cases h))
              refine wpSeq_call rfl (by rfl) (fun K hK => ?_)
              refine wp_append_own_wide _ (.tmp 78) (.tmp 82) 25 rfl W4.heap.size 3 i1 (.int .i64 0) 1 8 Try.underInts hj1 hy0 hy1 hy2 rfl (by decide) (.slice (some ⟨W4.heap.size, 0, none⟩) 0 0) 0 [] rfl how1 ⟨bw, 0, none⟩ jj cw ((s.way.take jj).map (Value.int .i64)) rfl (by simp; omega) hn1'.out (ints_oneCell' _) (by unfold maxLen; omega) (by omega) (by go_size) ?_
              intro v1 W5 ho5 hg5 _
              have hk2 : Below W4.heap.size W4 W5 := hk1.grown hg5 (by go_size) (fun k hk => by simp [Value.ownBlock] at hk; omega)
              have hS2 : S W5 := (hk2.cell (p := ⟨bx, 2, none⟩) hbxl).trans m2
              refine hK _ _ hS2 ?_
              clear hK K hn1' how1 hS1 hg5 hk1
              have hn2' := hid (way_news (owns_below HF4.out.way hk2) o2 (s.way.drop (jj + 1)) (fun j x h => by
                rw [List.getElem?_drop] at h
                rcases ho2' with e | e
                · rw [e]; exact h
                · have := (List.getElem?_eq_some_iff.1 h).1; omega))
              have hsz5 := hk2.size
              refine wpSeq_call rfl (by rfl) (fun K hK => ?_)
              refine wp_append_own_wide _ (.tmp 83) (.tmp 88) 25 rfl W4.heap.size 3 i1 (.int .i64 0) 1 8 Try.underInts hj1 hy0 hy1 hy2 rfl (by decide) v1 (0 + jj) _ rfl ho5 ⟨bw, o2, none⟩ (s.way.length - (jj + 1)) (cw - (jj + 1)) ((s.way.drop (jj + 1)).map (Value.int .i64)) rfl (by simp) hn2'.out (ints_oneCell' _) (by unfold maxLen; omega) (by omega) (by omega) ?_
              intro v2 W6 ho6 hg6 _
              have hk3 : Below W4.heap.size W4 W6 := hk2.grown hg6 (by omega) (fun k hk => (ho5.lt k hk).1)
              have hS3 : S W6 := (hk3.cell (p := ⟨bx, 2, none⟩) hbxl).trans m2
              refine hK _ _ hS3 ?_
              clear hK K hn2' hS2 hg6 hk2 hsz5 ho5
              obtain ⟨a2, c2, rfl⟩ := owns_slice ho6
              simp only [Nat.zero_add, List.nil_append] at ho6
              have hwl6 : jj + (s.way.length - (jj + 1)) = (s.way.eraseIdx jj).length := by rw [List.length_eraseIdx]; simp only [hjy, if_true]; omega
              have ho7 : W6.ownsRow W4.heap.size 3 1 (.slice a2 (jj + (s.way.length - (jj + 1))) c2) (s.way.eraseIdx jj).length ((s.way.eraseIdx jj).map (Value.int .i64)) := by
                rw [hwl6] at ho6 ⊢
                rw [List.eraseIdx_eq_take_drop_succ] at ho6 ⊢
                rw [List.map_append]
                exact ho6
              have HFin : Hid (Fl 3 W1.heap.size (W6.setCell ⟨bx, 2, none⟩ (.slice a2 (jj + (s.way.length - (jj + 1))) c2)) bx bl cl bt N (.slice a2 (jj + (s.way.length - (jj + 1))) c2) (dLand s jj).way (dLand s jj).most (dLand s jj).L (dLand s jj).T) := by
                rw [hdl.out]
                exact HF4.out.landed hk3 ho7 HB4.out.size
              have HBin : Hid (Below W1.heap.size W1 (W6.setCell ⟨bx, 2, none⟩ (.slice a2 (jj + (s.way.length - (jj + 1))) c2))) := (HB4.out.trans (hk3.mono HB4.out.size)).setCell HF4.out.hb _
              have f6 := fun j => (HF4.out.blk.below hk3).frozen j
              have l6 := (HF4.out.blk.below hk3).lt
              have HOK' := hid (okD_land HOK.out jj)
              have q6 : W6.cell? ⟨bx, 2, none⟩ = some (.slice (some ⟨bw, 0, none⟩) s.way.length cw) := hS3
              clear ho6 ho7 hwl6 hk3 ho2'
              (repeat (refine' wpSeq_take rfl _ (by rfl) ?_ ?_; rotate_left; focus (intro w' hS; (try dsimp only at hS); have s1 : w'.cell? ⟨bx, 2, none⟩ = some (.slice (some ⟨bw, 0, none⟩) s.way.length cw) := hS; go_simp; (first | done | with_reducible rfl)); (try simp only [Act.put, List.setIfInBounds_toArray, List.set_cons_zero, List.set_cons_succ])))
              refine wpSeq_nil ?_
              clear S hS3 m2
              go_wp2_with fail
              go_roundw
              case rel => exact ⟨k + 1, dLand s jj, _, by have := HKM.out; omega, by go_num, HOK', HFin, HBin, hz2⟩
              case measure => have := HKM.out; simp [intOf]; omega
            · have hlt : j < (waitN g q N s.L).length := by omega
              have hmem : (waitN g q N s.L)[j]?.getD 0 ∈ waitN g q N s.L := by rw [List.getElem?_eq_getElem hlt]; exact List.getElem_mem hlt
              obtain ⟨q1, q2, _⟩ := waitTo_mem _ _ _ hmem
              obtain ⟨v, hve⟩ := Int.eq_ofNat_of_zero_le q1
              have hvN : v < N := by omega
              have hdn : dNxt g q N s j = dFire g N v s := by unfold dNxt; rw [if_neg hge, hve, Int.toNat_natCast]
              rw [hdn] at hz2
              have hge' : ¬ ((waitN g q N s.L).length : Int) ≤ (j : Int) := by omega
              have hge'' : (j : Int) < ((waitN g q N s.L).length : Int) := by omega
              have hj0 : (0 : Int) ≤ (j : Int) := by omega
              obtain ⟨bw, cw2, hbv, hbw1, hbw2⟩ := owns_some HW3.out (by omega)
              injection hbv with e1 e2 e3
              subst e1 e3
              clear e2
              have cj := owns_int HW3.out j hlt
              rw [hve] at cj
              have cv' := owns_int HF3.out.left v hvN
              rw [vecOf_get _ _ _ hvN] at cv'
              have cval := owns_int (owns_below HMV.out.2 HB3.out) v hvN
              rw [HVG.out v hvN] at cval
              have fv := HF3.out.left.frozenAt v
              have hLb := HOK.out.1 v hvN
              have hTb := HOK.out.2.1 v hvN
              have hvb := val_bd HK.out v
              have hlv := (owns_lt HF3.out.left).2
              have hlav := (owns_lt (owns_below HMV.out.2 HB3.out)).2
              have wx : IntKind.i64.wrap (s.L v - valence g v) = s.L v - valence g v := IntWalk.i64_in _ (by have := HK20.out; omega)
              have hv1 : (v : Int) < (N : Int) := by omega
              have hv0 : (0 : Int) ≤ (v : Int) := by omega
              have hdf : Hid (dFire g N v s = ⟨fun u => if u = v then s.L u - valence g v else s.L u, fun u => if u = v then s.T u + 1 else s.T u, wayTo g v s.way N, max s.most ((wayTo g v s.way N).length : Int)⟩) := rfl
              clear hdn hdc hmem hve hkm h0 q1 q2
              generalize hWl : (waitN g q N s.L).length = wl at *
              clear hWl
              go_upto_region 17 with fail
              let S : World → Prop := fun w' => w'.cell? ⟨bx, 0, none⟩ = some (.slice (some ⟨bl, 0, none⟩) N cl) ∧ w'.cell? ⟨bl, v, none⟩ = some (.int .i64 (s.L v)) ∧ w'.cell? ⟨av, v, none⟩ = some (.int .i64 (valence g v))
              (refine wp_region_text 11 [0,1,2,3,4,5,6,7,8,9,10] S (by kernel_rfl) (by kernel_rfl) (by intro _ _ d _ _ h; cases d <;> exact h) ?hS ?_; rotate_left; simp only [List.map_cons, List.map_nil, List.getD_cons_zero, List.getD_cons_succ, List.drop_succ_cons, List.drop_zero])
              case hS => exact ⟨p0, cv', cval⟩
              (repeat (refine' wpSeq_take rfl _ (by rfl) ?_ ?_; rotate_left; focus (intro w' hS; (try dsimp only at hS); obtain ⟨s1, s2, s3⟩ := hS; go_simp; (first | done | with_reducible rfl)); (try simp only [Act.put, List.setIfInBounds_toArray, List.set_cons_zero, List.set_cons_succ])))
              refine wpSeq_nil ?_
              clear S
              go_upto_region 18 with fail
              obtain ⟨W4, hW4⟩ : ∃ W : World, W = (W3.setCell ⟨bl, v, none⟩ (.int .i64 (s.L v - valence g v))).drew := ⟨_, rfl⟩
              have hF4 : Fl 3 W1.heap.size W4 bx bl cl bt N (.slice aw s.way.length cw) s.way s.most (fun u => if u = v then s.L v - valence g v else s.L u) s.T := by rw [hW4]; exact (HF3.out.setL v _).drew
              have hB4 : Below W1.heap.size W1 W4 := by rw [hW4]; exact (HB3.out.setCell (p := ⟨bl, v, none⟩) (owns_lt HF3.out.left).1 _).drew
              rw [← hW4]
              have HF4 := hid hF4
              have HB4 := hid hB4
              have n1 := hF4.blk.cell 1
              simp only [List.getElem?_toArray, List.getElem?_cons_zero, List.getElem?_cons_succ] at n1
              have ct := owns_int hF4.times v hvN
              rw [vecOf_get _ _ _ hvN] at ct
              have ft := hF4.times.frozenAt v
              have hlt4 := (owns_lt hF4.times).2
              have wt : IntKind.i64.wrap (s.T v + 1) = s.T v + 1 := IntWalk.i64_in _ (by have := HK20.out; omega)
              clear hW4 hF4 hB4 cj cv' cval fv hLb hTb hvb wx p0 p1 p2 p3 px HF3 HB3 HW3 hlv hlav hbx
              go_upto_region 19 with fail
              obtain ⟨W5, hW5⟩ : ∃ W : World, W = W4.setCell ⟨bt, v, none⟩ (.int .i64 (s.T v + 1)) := ⟨_, rfl⟩
              rw [← hW5]
              have HF5 : Hid (Fl 3 W1.heap.size W5 bx bl cl bt N (.slice aw s.way.length cw) s.way s.most (fun u => if u = v then s.L u - valence g v else s.L u) (fun u => if u = v then s.T u + 1 else s.T u)) := by
                rw [hW5]
                refine (HF4.out.setT v (s.T v + 1)).congr (fun u _ => ?_) (fun u _ => ?_) <;> (show (if u = v then _ else _) = if u = v then _ else _) <;> (split <;> first | (rename_i e; rw [e]) | rfl)
              have HB5 : Hid (Below W1.heap.size W1 W5) := by rw [hW5]; exact HB4.out.setCell (p := ⟨bt, v, none⟩) (owns_lt HF4.out.times).1 _
              clear hW5 n1 ct ft hlt4 wt HF4 HB4
              go_wp2
              go_loopw [18] (fun i wr => ∃ (u : Nat) (wv : Value), u ≤ N ∧ i = .int .i64 u ∧ Hid (Fl 3 W1.heap.size wr bx bl cl bt N wv (wayTo g v s.way u) s.most (fun u => if u = v then s.L u - valence g v else s.L u) (fun u => if u = v then s.T u + 1 else s.T u)) ∧ Hid (Below W1.heap.size W1 wr)) (fun i _ => N - (intOf i).toNat)
              case atStart => exact ⟨0, _, Nat.zero_le _, rfl, HF5, HB5⟩
              case round =>
                clear HF5 HB5
                obtain ⟨u, wv, hu, rfl, HFu, HBu⟩ := hrel
                obtain ⟨Wu, rfl⟩ : ∃ W : World, W = wr := ⟨_, rfl⟩
                have gn : Wu.cell? ⟨w.heap.size, 0, none⟩ = some (.int .i64 g.n) := (HBu.out.cell (p := ⟨w.heap.size, 0, none⟩) (by have := HGA.out; dsimp only; omega)).trans f1
                have hwy := (wayTo_len HK.out v s.way u).1
                by_cases hut : u < N
                · have hut1 : (u : Int) < g.n := by omega
                  have hut2 : (u : Int) < (N : Int) := by omega
                  have hu0 : (0 : Int) ≤ (u : Int) := by omega
                  obtain ⟨m, hm⟩ := Int.eq_ofNat_of_zero_le (rowsF_bd HK.out v u).1
                  have hm50 : m ≤ 50 := by have := (rowsF_bd HK.out v u).2; omega
                  have HM := hid hm
                  have HM50 := hid hm50
                  have HWY : Hid (wayTo g v s.way (u + 1) = wayTo g v s.way u ++ List.replicate m (u : Int)) := by show wayTo g v s.way u ++ List.replicate (rowsF g v u).toNat (u : Int) = _; rw [hm, Int.toNat_natCast]
                  clear hm hm50
                  have HWL : Hid ((wayTo g v s.way u).length ≤ 900000000) := by show _ ≤ _; omega
                  clear hwy
                  go_wp2
                  go_loopw [19] (fun i wr => ∃ (n' : Nat) (wv' : Value), n' ≤ m ∧ i = .int .i64 n' ∧ Hid (Fl 3 W1.heap.size wr bx bl cl bt N wv' (wayTo g v s.way u ++ List.replicate n' (u : Int)) s.most (fun u => if u = v then s.L u - valence g v else s.L u) (fun u => if u = v then s.T u + 1 else s.T u)) ∧ Hid (Below W1.heap.size W1 wr)) (fun i _ => m - (intOf i).toNat)
                  case atStart => exact ⟨0, wv, Nat.zero_le _, rfl, by rw [List.replicate_zero, List.append_nil]; exact HFu, HBu⟩
                  case round =>
                    clear HFu HBu gn
                    obtain ⟨n', wv', hn', rfl, HFn, HBn⟩ := hrel
                    obtain ⟨Wn, rfl⟩ : ∃ W : World, W = wr := ⟨_, rfl⟩
                    obtain ⟨wy, hwy⟩ : ∃ wy, wy = wayTo g v s.way u ++ List.replicate n' (u : Int) := ⟨_, rfl⟩
                    rw [← hwy] at HFn
                    have HWy := hid hwy
                    clear hwy
                    obtain ⟨ay, cy, rfl⟩ := owns_slice HFn.out.way
                    have c2 := (HMV.out.1.below HBn.out).at v hvN
                    have c5 := (HMV.out.1.below HBn.out).cell v u hvN hut
                    rw [HM.out] at c5
                    generalize bs v = br at *
                    by_cases hnm : n' < m
                    · have hnm1 : (n' : Int) < (m : Int) := by omega
                      have hnw : IntKind.i64.wrap ((n' : Int) + 1) = (n' : Int) + 1 := IntWalk.i64_in _ (by have := HM50.out; omega)
                      have x2 := HFn.out.blk.cell 2
                      simp only [List.getElem?_toArray, List.getElem?_cons_zero, List.getElem?_cons_succ] at x2
                      have hll : wy.length ≤ 1000000000000 := by rw [HWy.out, List.length_append, List.length_replicate]; have := HWL.out; have := HM50.out; omega
                      have HLL := hid hll
                      have hbn0 := hid HBn.out.size
                      clear hll
                      go_wp2_with (at_builtin; refine wpList_app1L Wn rfl _ _ 25 rfl 3 Try.underInts Try.infoInt W1.heap.size _ wy HFn.out.way (u : Int) Wn.heap.size rfl rfl rfl HLL.out hbn0.out ?_; intro bn cn w' hown hgr hat hlt'; have HPu := hid (HFn.out.push (by simp) hown hgr hat); have HPb := hid (HFn.out.pushB HBn.out hbn0.out hgr (.slice (some ⟨bn, 0, none⟩) (wy.length + 1) cn)); have hb' := HFn.out.blk.grown hgr (fun e => (HFn.out.sep bx e).2.2 rfl); have y0 := hb'.cell 2; have y1 := fun j => hb'.frozen j; have y2 := hb'.lt; simp only [List.getElem?_toArray, List.getElem?_cons_zero, List.getElem?_cons_succ] at y0; clear hown hgr hat hb')
                      go_roundw
                      case rel =>
                        have e : wy ++ [(u : Int)] = wayTo g v s.way u ++ List.replicate (n' + 1) (u : Int) := by rw [HWy.out, List.replicate_succ', List.append_assoc]
                        rw [e] at HPu
                        exact ⟨n' + 1, _, by omega, by go_num, HPu, HPb⟩
                      case measure => simp [intOf]; omega
                    · obtain rfl : n' = m := by omega
                      have hnm1 : ¬ (n' : Int) < (n' : Int) := by omega
                      have huw : IntKind.i64.wrap ((u : Int) + 1) = (u : Int) + 1 := IntWalk.i64_in _ (by omega)
                      go_wp2_with fail
                      go_roundw
                      case rel =>
                        have e : wy = wayTo g v s.way (u + 1) := by rw [HWY.out]; exact HWy.out
                        rw [e] at HFn
                        exact ⟨u + 1, _, by omega, by go_num, HFn, HBn⟩
                      case measure => simp [intOf]; omega
                · obtain rfl : u = N := by omega
                  have hut1 : ¬ (u : Int) < g.n := by omega
                  obtain ⟨wy, hwy'⟩ : ∃ wy, wy = wayTo g v s.way u := ⟨_, rfl⟩
                  rw [← hwy'] at HFu hwy
                  have hdf' : Hid (dFire g u v s = ⟨fun i => if i = v then s.L i - valence g v else s.L i, fun i => if i = v then s.T i + 1 else s.T i, wy, max s.most (wy.length : Int)⟩) := by show _ = _; rw [hdf.out, ← hwy']
                  obtain ⟨ay, cy, rfl⟩ := owns_slice HFu.out.way
                  have x2 := HFu.out.blk.cell 2
                  have x3 := HFu.out.blk.cell 3
                  simp only [List.getElem?_toArray, List.getElem?_cons_zero, List.getElem?_cons_succ] at x2 x3
                  have xf := fun j => HFu.out.blk.frozen j
                  have xl := HFu.out.blk.lt
                  have HOK' := hid (okD_fire HK.out (by omega) HOK.out v)
                  have HSM := hid (HFu.out.setMost (max s.most (wy.length : Int)))
                  have HSB := hid (HBu.out.setCell (p := ⟨bx, 3, none⟩) (by exact HFu.out.hb) (.int .i64 (max s.most (wy.length : Int))))
                  clear hwy hwy' HFu HBu hdf
                  go_wp2
                  go_roundw
                  case rel =>
                    have HSM' : Hid (Fl 3 W1.heap.size (Wu.setCell ⟨bx, 3, none⟩ (.int .i64 (max s.most (wy.length : Int)))) bx bl cl bt u (.slice ay wy.length cy) (dFire g u v s).way (dFire g u v s).most (dFire g u v s).L (dFire g u v s).T) := by
                      rw [hdf'.out]
                      exact HSM
                    exact ⟨k + 1, dFire g u v s, _, by have := HKM.out; omega, by go_num, HOK', HSM', HSB, hz2⟩
                  case measure => have := HKM.out; simp [intOf]; omega

end Go.Proofs.Ytlhbgainpeehoaa
