/-
  Contracts of the notation: table behind an error; of. Contracts of the notation: ReadGraph. Contracts of the notation: ReadDigraph.
-/
import Derived.Test.YtemmepgfngkgmaaGreatDoorN11
namespace Go.Proofs.YtemmepgfngkgmaaGreatDoor
open Go.RowKit
set_option linter.unusedVariables false
set_option linter.unusedSimpArgs false

set_option maxRecDepth 100000 in
set_option maxHeartbeats 1000000 in
theorem n_tableE (rest : List Value) (s : Rs) (rb tb : Nat) (w : World) (hm : s.more = false) (hT : Tk w rb tb 104 rest s) :
    Calls Tryz.prog 49 #[.pointer (some ⟨rb, 0, none⟩)] w (RetTab w rb tb 104 rest ([], s)) := by
  have HT := hid hT
  have HM := hid hm
  clear hm hT
  go_enter Tryz.func49, Tryz.ntmps49
  go_wp2_with fail
  go_loopg [3] 1 (fun k v wr => v = .slice none 0 0 ∧ Hid (wr = w))
  case atStart => exact ⟨rfl, rfl⟩
  case round =>
    obtain ⟨rfl, hw⟩ := hrel
    obtain rfl := hw.out
    go_wp2_with fail
    refine (t_more _ rb tb _ _ s HT.out).mono ?_
    rintro e w1 ⟨rfl, hB1⟩
    rw [HM.out]
    dsimp only
    go_wp2_with fail
    go_ret
    exact ⟨_, rfl, ⟨rfl, .inl ⟨rfl, rfl⟩⟩, HT.out.below hB1, grown_of hB1 _⟩

/-- v is a slice of lines in w. -/
def LinesR (w : World) (v : Value) (es : List E) : Prop :=
  ∃ a cap, v = .slice a es.length cap ∧ es.length ≤ cap ∧ cap ≤ 9223372036854775807 ∧ (es = [] ∨ ∃ b off, a = some ⟨b, off, none⟩ ∧ b < w.heap.size ∧ ∀ k, k < es.length →
    w.cell? ⟨b, off + k * 4, none⟩ = some (.int .i64 (es[k]?.getD default).a) ∧ w.cell? ⟨b, off + k * 4 + 1, none⟩ = some (.int .i64 (es[k]?.getD default).b) ∧
    w.cell? ⟨b, off + k * 4 + 2, none⟩ = some (.int .i64 (es[k]?.getD default).m) ∧ ∃ p, w.cell? ⟨b, off + k * 4 + 3, none⟩ = some (.int .i64 p))
theorem LinesR.below {w w' : World} {v : Value} {es : List E} (h : LinesR w v es) (hb : Below w.heap.size w w') : LinesR w' v es := by
  obtain ⟨a, cap, h1, h2, h3, h4⟩ := h
  refine ⟨a, cap, h1, h2, h3, ?_⟩
  rcases h4 with h4 | ⟨b, off, rfl, hl, hc⟩
  · exact .inl h4
  · refine .inr ⟨b, off, rfl, Nat.lt_of_lt_of_le hl hb.size, fun k hk => ?_⟩
    obtain ⟨c0, c1, c2, p, c3⟩ := hc k hk
    exact ⟨(hb.cell (p := ⟨b, _, none⟩) hl).trans c0, (hb.cell (p := ⟨b, _, none⟩) hl).trans c1, (hb.cell (p := ⟨b, _, none⟩) hl).trans c2, p, (hb.cell (p := ⟨b, _, none⟩) hl).trans c3⟩
theorem owns_linesR {w : World} {base : Nat} {e : TypeId} {v : Value} {es : List E} (h : w.ownsRow base e 4 v es.length (linesC es)) : LinesR w v es := by
  by_cases h0 : 0 < es.length
  · obtain ⟨g, cap, rfl, _, hl, h1, h2, _, hc⟩ := owns_lines h h0
    refine ⟨_, cap, rfl, h1, h2, .inr ⟨g, 0, rfl, hl, fun k hk => ?_⟩⟩
    obtain ⟨c0, c1, c2, c3⟩ := hc k hk
    exact ⟨by rw [Nat.zero_add]; exact c0, by rw [Nat.zero_add]; exact c1, by rw [Nat.zero_add]; exact c2, 0, by rw [Nat.zero_add]; exact c3⟩
  · obtain rfl : es = [] := List.eq_nil_of_length_eq_zero (by omega)
    obtain ⟨a, cap, rfl, h1, h2, _⟩ := owns_at h
    exact ⟨_, _, rfl, h1, h2, .inl rfl⟩

theorem und_edges : Tryz.prog.underlying 22 = some (.slice 82) := by kernel_rfl
theorem info_edge : (Tryz.prog.info? 82).map (fun i => (i.zero, i.size, i.bytes)) = some (some (.agg #[.int .i64 0, .int .i64 0, .int .i64 0]), 3, 24) := by kernel_rfl
theorem trip_news (w : World) (x y z : Int) (e : TypeId) (j : Nat) (u : Value) (h : [Value.int .i64 x, Value.int .i64 y, Value.int .i64 z][j]? = some u) : (w.alloc (.cells #[.int .i64 x, .int .i64 y, .int .i64 z] e)).cell? ((⟨w.heap.size, 0, none⟩ : Addr).add j) = some u := by
  have e1 : (⟨w.heap.size, 0, none⟩ : Addr).add j = ⟨w.heap.size, j, none⟩ := by unfold Addr.add; split <;> simp_all
  rw [e1, World.cell?_alloc_new]; simpa using h
theorem flat_append (a b : List E) : (a ++ b).flatMap E.cells = a.flatMap E.cells ++ b.flatMap E.cells := by simp
theorem owns_edges {w : World} {base : Nat} {e : TypeId} {v : Value} {es : List E} (h : w.ownsRow base e 3 v es.length (es.flatMap E.cells)) (hb : es.length * 24 ≤ 140737488355328) : EdgesR w v es := by
  obtain ⟨a, cap, h1, h2, h3, h4⟩ := owns_at h
  exact ⟨a, cap, h1, h2, h3, hb, h4⟩
theorem load_gr {w : World} {T : TypeId} (hT : T = 24) {b : Nat} {v0 v1 : Value} (h : Blk w b #[v0, v1] T) : (loadVar 24 ⟨b, 0, none⟩).run Tryz.prog w = .ok (.agg #[v0, v1]) w := by
  subst hT
  have hlt := h.lt
  have c0 := h.cell 0
  have c1 := h.cell 1
  simp only [List.getElem?_toArray, List.getElem?_cons_zero, List.getElem?_cons_succ] at c0 c1
  go_simp

set_option maxRecDepth 100000 in
set_option maxHeartbeats 2000000 in
theorem n_of (n : Int) (es : List E) (v : Value) (w : World) (hL : LinesR w v es) (hes : es.length ≤ 1000000) :
    Calls Tryz.prog 50 #[.int .i64 n, v] w fun e w' => ∃ ev, e = .returned (.agg #[.int .i64 n, ev]) ∧ w'.ownsRow w.heap.size 82 3 ev es.length (es.flatMap E.cells) ∧ Below w.heap.size w w' := by
  obtain ⟨i0, hi, hz0, hz1, hz2⟩ := info_parts info_edge
  have HL := hid hL
  obtain ⟨a, cap, rfl, hcap, hcm, _⟩ := hL
  go_enter Tryz.func50, Tryz.ntmps50
  go_wp2_with fail
  go_loopw [12] (fun i wr => ∃ k : Nat, ∃ u : Value, k ≤ es.length ∧ i = .int .i64 k ∧ Hid (Blk wr w.heap.size #[.int .i64 0, .slice none 0 0] 24) ∧ Hid (Blk wr (w.heap.size + 1) #[.int .i64 n, u] 24) ∧ Hid (wr.ownsRow (w.heap.size + 2) 82 3 u k ((es.take k).flatMap E.cells)) ∧ Hid (Below w.heap.size w wr))
    (fun i _ => es.length - (intOf i).toNat)
  case atStart => exact ⟨0, _, Nat.zero_le _, rfl, (Blk.new w #[.int .i64 0, .slice none 0 0] 24).alloc _, (by
    have h := Blk.new (w.alloc (.cells #[.int .i64 0, .slice none 0 0] 24)) #[.int .i64 n, .slice none 0 0] 24
    rwa [show (w.alloc (.cells #[.int .i64 0, .slice none 0 0] 24)).heap.size = w.heap.size + 1 by simp] at h), World.ownsRow_nil _ _ _ _, by show Below _ _ _; go_grown⟩
  case round =>
    obtain ⟨k, u, hkn, rfl, HR0, HB0, HO, HB⟩ := hrel
    by_cases hlt : k < es.length
    · obtain ⟨a', cap', ea, _, _, hc⟩ := HL.out.below HB.out
      injection ea with ea1 _ ea3
      subst ea1
      rcases hc with rfl | ⟨b, off, rfl, hb, hc⟩
      · simp at hlt
      obtain ⟨c0, c1, c2, p, c3⟩ := hc k hlt
      have hst := hid (take_step es k hlt)
      have hlt' : (k : Int) < (es.length : Int) := by omega
      have hk0 : (0 : Int) ≤ (k : Int) := by omega
      clear hc
      generalize hx : es[k]?.getD default = x at *
      obtain ⟨xa, xb, xm⟩ := x
      dsimp only at c0 c1 c2
      clear hx
      go_upto_region 5 with fail
      have hs := HB.out.size
      have hbw : w.heap.size + 2 ≤ wr.heap.size := by
        have := HB0.out.lt
        omega
      have HX := hid (Blk.new wr #[.int .i64 xa, .int .i64 xb, .int .i64 xm, .int .i64 p] 149)
      have HR1 := hid (HR0.out.alloc (.cells #[.int .i64 xa, .int .i64 xb, .int .i64 xm, .int .i64 p] 149))
      have HB1 := hid (HB0.out.alloc (.cells #[.int .i64 xa, .int .i64 xb, .int .i64 xm, .int .i64 p] 149))
      have HO1 := hid (HO.out.alloc (.cells #[.int .i64 xa, .int .i64 xb, .int .i64 xm, .int .i64 p] 149))
      have HB2 := hid (HB.out.alloc hs (.cells #[.int .i64 xa, .int .i64 xb, .int .i64 xm, .int .i64 p] 149))
      have hGX : w.heap.size + 1 < wr.heap.size := HB0.out.lt
      generalize hX : wr.heap.size = X at *
      generalize wr.alloc (.cells #[.int .i64 xa, .int .i64 xb, .int .i64 xm, .int .i64 p] 149) = W1 at *
      have x0 := HX.out.cell 0
      have x1 := HX.out.cell 1
      have x2 := HX.out.cell 2
      have g0 := HB1.out.cell 0
      have g1 := HB1.out.cell 1
      simp only [List.getElem?_toArray, List.getElem?_cons_zero, List.getElem?_cons_succ] at x0 x1 x2 g0 g1
      have hXl := HX.out.lt
      have hGl := HB1.out.lt
      have hs1 := HB2.out.size
      clear c0 c1 c2 c3 HB0 HO HB HR0
      have hne : u.ownBlock ≠ some (w.heap.size + 1) := fun e => by have := (HO1.out.lt _ e).1; omega
      go_wp2_with (at_builtin; refine wpList_append_own _ rfl _ _ 22 rfl (w.heap.size + 2) 82 i0 (.agg #[.int .i64 0, .int .i64 0, .int .i64 0]) 3 24 und_edges hi hz0 hz1 hz2 rfl (by decide) _ k _ rfl (HO1.out.alloc _) ⟨W1.heap.size, 0, none⟩ 1 1 [.int .i64 xa, .int .i64 xb, .int .i64 xm] rfl rfl (fun j u h => trip_news W1 xa xb xm _ j u h) (by simp [Value.oneCell']) (by unfold maxLen; omega) (by omega) (by simp; omega) ?_; intro v' w2 hown2 hgr2 _; have HO2 := hid hown2; have HG := hid ((Below.toGrown ((Below.refl _ W1).alloc (Nat.le_refl _) (.cells #[.int .i64 xa, .int .i64 xb, .int .i64 xm] 82)) u.ownBlock).trans hgr2); obtain ⟨av, cv, ev, _⟩ := owns_at hown2; subst ev; have HG2 := hid (HB1.out.grown HG.out hne); have g3 := HG2.out.cell 1; simp only [List.getElem?_toArray, List.getElem?_cons_zero, List.getElem?_cons_succ] at g3; have g4 := HG2.out.frozen 1; have g5 := HG2.out.lt; clear hown2 hgr2)
      go_roundw
      case rel =>
        refine ⟨k + 1, by omega, by go_num, ?_, .slice av (k + 1) cv, ?_, ?_, ?_⟩
        · show Blk _ _ _ _
          exact (HR1.out.grown HG.out (fun e => by have := (HO1.out.lt _ e).1; omega)).other (by omega) 1 _
        · show Blk _ _ (#[Value.int .i64 n, u].setIfInBounds 1 (.slice av (k + 1) cv)) _
          exact HG2.out.set 1 _
        · show World.ownsRow _ _ _ _ _ _ _
          rw [hst.out, flat_append]
          exact HG2.out.owns HO2.out (fun e => by have := (HO2.out.lt _ e).1; omega) 1 _
        · show Below _ _ _
          exact (HB2.out.grown HG.out hs1 (fun q hq => by have := (HO1.out.lt q hq).1; omega)).setCell (show w.heap.size ≤ w.heap.size + 1 by omega) _
      case measure => simp [intOf]; omega
    · obtain rfl : k = es.length := by omega
      rw [List.take_length] at HO
      have hlt' : ¬ (es.length : Int) < (es.length : Int) := by omega
      have g0 := HB0.out.cell 0
      have g1 := HB0.out.cell 1
      have r0 := HR0.out.cell 0
      have r1 := HR0.out.cell 1
      simp only [List.getElem?_toArray, List.getElem?_cons_zero, List.getElem?_cons_succ] at g0 g1 r0 r1
      have g4 := HR0.out.frozen 0
      have g5 := HR0.out.frozen 1
      have hR := HR0.out.lt
      have hG := HB0.out.lt
      clear HL hcap hcm
      obtain ⟨au, cu, eu, _⟩ := owns_at HO.out
      subst eu
      go_wp2_with fail
      have HR2 := hid ((HR0.out.set 0 (.int .i64 n)).set 1 (.slice au es.length cu))
      refine bodyPost_ret (results_cell1' rfl rfl (load_gr rfl HR2.out)) rfl ?_
      refine ⟨_, rfl, owns_base (base := w.heap.size + 2) ?_ (by omega), ?_⟩
      · exact (HR0.out.set 0 (.int .i64 n)).owns (HR0.out.owns HO.out (fun e => by have := (HO.out.lt _ e).1; omega) 0 _) (fun e => by have := (HO.out.lt _ e).1; omega) 1 _
      · exact (HB.out.setCell (Nat.le_refl _) _).setCell (Nat.le_refl _) _

end Go.Proofs.YtemmepgfngkgmaaGreatDoor

namespace Go.Proofs.YtemmepgfngkgmaaGreatDoor
open Go.RowKit
set_option linter.unusedVariables false
set_option linter.unusedSimpArgs false

theorem head_ok {word : List UInt8} {s : Rs} (h : (s.head word).2.e = 0) : 1 ≤ (s.head word).1 ∧ (s.head word).1 ≤ 12 := by
  unfold Rs.head at h ⊢
  dsimp only at h ⊢
  have h1 := (Rs.is_kind (need_ok h).1).2.1
  exact ⟨(num_ok h1).2.2.2.1, (num_ok h1).2.2.2.2⟩
theorem tabL_len (sign : UInt8) (either : Bool) (n : Int) : ∀ f es s, (tabL sign either n f es s).1.length ≤ es.length + f
  | 0, es, s => by simp [tabL]
  | f + 1, es, s => by
    unfold tabL
    have ha := fun a b m => addE_len es a b m
    have hl := fun a b => (insE_len es a b).2
    split
    · simp
    · dsimp only
      split
      · simp
      · split
        · rw [ha]; have := hl (lo either (s.line sign n).1) (hi either (s.line sign n).1); omega
        · have h1 := tabL_len sign either n f (addE es (lo either (s.line sign n).1) (hi either (s.line sign n).1) (s.line sign n).1.m) (s.line sign n).2
          rw [ha] at h1
          have := hl (lo either (s.line sign n).1) (hi either (s.line sign n).1)
          omega
/-- What a text of a graph, or a digraph, is read as: the graph, the place, the error. -/
def tableP (word : List UInt8) (sign : UInt8) (either : Bool) (s : Rs) : G × Int × Int :=
  let h := s.head word
  let t := tabL sign either h.1 h.2.ts.length [] h.2
  if t.2.e ≠ 0 then (⟨0, []⟩, t.2.pl, t.2.e) else (⟨h.1, t.1⟩, 0, 0)
def RetRd (w : World) (z : G × Int × Int) (e : Ending) (w' : World) : Prop :=
  ∃ gv, e = .returned (.tuple #[gv, .int .i64 z.2.1, .int .i64 z.2.2]) ∧ GrR w' gv z.1 ∧ Below w.heap.size w w'

theorem n_tableA (either : Bool) (sign : UInt8) (word : List UInt8) (f : Nat) (hf : EndsF f either) (hfn : ∀ args w, (callFunc f args).run Tryz.prog w = .ok (.enter f args) w) (n : Int) (s : Rs) (hn : s.e = 0 → 1 ≤ n ∧ n ≤ 12) (rb tb : Nat) (w : World) (hE : EnvB w rb) (hT : Tk w rb tb 104 (rdRest word sign f n) s) :
    Calls Tryz.prog 49 #[.pointer (some ⟨rb, 0, none⟩)] w (RetTab w rb tb 104 (rdRest word sign f n) (tabL sign either n s.ts.length [] s)) := by
  cases hm : s.more with
  | true =>
    have he : s.e = 0 := by unfold Rs.more at hm; simp at hm; exact hm.1
    exact n_table either sign word f hf hfn n (hn he).1 (hn he).2 s rb tb w hE hT
  | false =>
    have h0 := hT.1.1
    obtain ⟨q, hq⟩ : ∃ q, s.ts.length = q + 1 := ⟨s.ts.length - 1, by omega⟩
    rw [hq]
    unfold tabL
    rw [if_pos hm]
    exact n_tableE _ s rb tb w hm hT
theorem fn_sorted (args : Array Value) (w : World) : (callFunc 96 args).run Tryz.prog w = .ok (.enter 96 args) w := by go_simp
theorem fn_kept (args : Array Value) (w : World) : (callFunc 111 args).run Tryz.prog w = .ok (.enter 111 args) w := by go_simp
theorem results_cell3 {P : Program} {fn : Func} {k i j : Nat} {t : TypeId} (h : fn.results = #[.cell k t, .tmp i, .tmp j]) {tmps : Array Value} {b : Nat} {v : Value} {w : World} (ht : tmps[k]?.getD undef = .pointer (some ⟨b, 0, none⟩))
    (hl : (loadVar t ⟨b, 0, none⟩).run P w = .ok v w) : (results fn tmps).run P w = .ok (.tuple #[v, tmps.getD i undef, tmps.getD j undef]) w := by
  simp [results, h, ht, asAddr, hl]
theorem gr_zero (w : World) : GrR w (.agg #[.int .i64 0, .slice none 0 0]) ⟨0, []⟩ := ⟨_, rfl, none, 0, rfl, Nat.le_refl _, by omega, by decide, .inl rfl⟩


theorem tabL_ok {s : Rs} (h : TsOk s.ts) (sign : UInt8) (either : Bool) (n : Int) : (tabL sign either n s.ts.length [] s).1.length ≤ 1000000 := by
  have := tabL_len sign either n s.ts.length [] s
  have := h.2.1
  simp at *
  omega
set_option maxRecDepth 100000 in
set_option maxHeartbeats 2000000 in
theorem n_ReadGraph (text : List UInt8) (w : World) (hE : Env w) :
    Calls Tryz.prog 16 #[.string (str text)] w (RetRd w (tableP wGraph 45 true (opened (scanR text)))) := by
  obtain ⟨Z, hZ⟩ : ∃ Z, Z = tableP wGraph 45 true (opened (scanR text)) := ⟨_, rfl⟩
  rw [← hZ]
  have HZ := hid hZ
  clear hZ
  have HE := hid hE
  clear hE
  go_enter Tryz.func16, Tryz.ntmps16
  go_wp2_with fail
  obtain ⟨W0, hW0⟩ : ∃ W : World, W = w.alloc (.cells #[.int .i64 0, .slice none 0 0] 24) := ⟨_, rfl⟩
  rw [← hW0]
  have HR := hid (show Blk W0 w.heap.size #[.int .i64 0, .slice none 0 0] 24 by rw [hW0]; exact Blk.new _ _ _)
  have HB0 := hid (show Below w.heap.size w W0 by rw [hW0]; exact (Below.refl _ _).alloc (Nat.le_refl _) _)
  clear hW0
  refine (n_graphs W0).mono ?_
  rintro e w1 ⟨rfl, hB1⟩
  have HB1 := hid (up HB0.out hB1)
  have HR1 := hid (HR.out.below hB1)
  have HE1 := hid ((HE.out.below HB0.out).below hB1)
  clear hB1 HB0 HR HE
  dsimp only
  go_wp2_with fail
  refine (n_begin text wGraph 45 96 w1 HE1.out).mono ?_
  rintro e w2 ⟨rb, tb, rfl, hrb, hT, hB2⟩
  have HB2 := hid (up HB1.out hB2)
  have HR2 := hid (HR1.out.below hB2)
  have HE2 := hid ((HE1.out.atB hrb).below hB2)
  have HRB : Hid (w.heap.size < rb) := by show _ < _; have := HR1.out.lt; omega
  unfold tableP at HZ
  dsimp only at HZ
  generalize hh : (opened (scanR text)).head wGraph = h at *
  have hn : h.2.e = 0 → 1 ≤ h.1 ∧ h.1 ≤ 12 := fun e => by rw [← hh] at e ⊢; exact head_ok e
  obtain ⟨n, s⟩ := h
  dsimp only at HZ hn hT
  have HTL := hid (tabL_ok hT.1 45 true n)
  dsimp only
  go_wp2_with fail
  refine (n_tableA true 45 wGraph 96 ends_sorted fn_sorted n s hn rb tb w2 HE2.out hT).mono ?_
  rintro e w3 ⟨v, rfl, ho, ht, hg⟩
  clear hh hn hT hB2 hrb HB1 HR1 HE1
  generalize tabL 45 true n s.ts.length [] s = t at *
  obtain ⟨es, s'⟩ := t
  dsimp only at HZ ho ht HTL
  have HR3 := hid (HR2.out.grown hg (fun e => by have := HRB.out; simp at e; omega))
  have HB3 : Hid (Below w.heap.size w w3) := HB2.out.grown hg HB2.out.size (fun q hq => by have := HRB.out; simp at hq; omega)
  have HO := hid ho
  have HT := hid ht
  clear ho ht hg HB2 HR2 HE2
  have c1 := HT.out.rest.1
  have c6 := HT.out.rest.2.2.2.2
  obtain ⟨off, cap, d1, d2, d3, d4, d5, d6, d7, d8, d9, d10, d11, d12⟩ := HT.out.cells
  have hrl := HT.out.lt
  have HC1 := hid d7
  have HC2 := hid d8
  clear d1 d2 d3 d4 d5 d6 d7 d8 d9 d10 d11 d12
  by_cases he : s'.e = 0
  · rw [he] at c1
    have HZ2 : Hid (Z = (⟨n, es⟩, 0, 0)) := by have h := HZ.out; rw [if_neg (by rw [he]; simp)] at h; exact h
    clear HZ he
    go_wp2_with fail
    refine (n_of n es v w3 (owns_linesR HO.out) HTL.out).mono ?_
    rintro e w4 ⟨ev, rfl, hev, hB4⟩
    have HR4 := hid (HR3.out.below hB4)
    have HB4 := hid (up HB3.out hB4)
    have HEV := hid hev
    clear hB4 hev c1 c6 HC1 HC2
    obtain ⟨ea, ecap, ee, _⟩ := owns_at HEV.out
    subst ee
    have r0 := HR4.out.cell 0
    have r1 := HR4.out.cell 1
    simp only [List.getElem?_toArray, List.getElem?_cons_zero, List.getElem?_cons_succ] at r0 r1
    have f0 := HR4.out.frozen 0
    have f1 := HR4.out.frozen 1
    have rl := HR4.out.lt
    dsimp only
    go_wp2_with fail
    have HR5 := hid ((HR4.out.set 0 (.int .i64 n)).set 1 (.slice ea es.length ecap))
    rw [HZ2.out]
    refine bodyPost_ret (results_cell3 rfl rfl (load_gr rfl HR5.out)) rfl ⟨_, rfl, ⟨_, rfl, ?_⟩, ?_⟩
    · have hq : (Value.slice ea es.length ecap).ownBlock ≠ some w.heap.size := fun e => by have := (HEV.out.lt _ e).1; have := HR3.out.lt; omega
      exact owns_edges ((HR4.out.set 0 (.int .i64 n)).owns (HR4.out.owns HEV.out hq 0 _) hq 1 _) (show es.length * 24 ≤ 140737488355328 by have := HTL.out; omega)
    · exact (HB4.out.setCell (Nat.le_refl _) _).setCell (Nat.le_refl _) _
  · have HZ2 : Hid (Z = (⟨0, []⟩, s'.pl, s'.e)) := by have h := HZ.out; rw [if_pos he] at h; exact h
    have he1 : (s'.e != 0) = true := by simpa using he
    clear HZ he
    go_upto_region 4 with fail
    have r0 := HR3.out.cell 0
    have r1 := HR3.out.cell 1
    simp only [List.getElem?_toArray, List.getElem?_cons_zero, List.getElem?_cons_succ] at r0 r1
    have hne : rb ≠ w.heap.size := by have := HRB.out; omega
    let S : World → Prop := fun W' => W'.cell? ⟨rb, 1, none⟩ = some (.int .i64 s'.e) ∧ W'.cell? ⟨rb, 2, none⟩ = some (.int .i64 s'.pl)
    (refine wp_region_text 13 [0,1,2,3,4,5,6,7,8,9,10,11,12] S (by kernel_rfl) (by kernel_rfl) (by intro _ _ d _ _ h; cases d <;> exact h) ?hS ?_; rotate_left; simp only [List.map_cons, List.map_nil, List.getD_cons_zero, List.getD_cons_succ, List.drop_succ_cons, List.drop_zero])
    case hS => exact ⟨HC1.out, HC2.out⟩
    (repeat ((refine' wpSeq_take rfl _ (by rfl) ?_ ?_; rotate_left; focus (intro w' hS; (try dsimp only at hS); obtain ⟨s1, s2⟩ := hS; go_simp; (first | done | with_reducible rfl)); (try simp only [Act.put, List.setIfInBounds_toArray, List.set_cons_zero, List.set_cons_succ])); (try simp only [Act.put, List.setIfInBounds_toArray, List.set_cons_zero, List.set_cons_succ])))
    refine wpSeq_call rfl (by rfl) (fun K hK => ?_)
    have r0' : (w3.drew).cell? ⟨w.heap.size, 0, none⟩ = some (.int .i64 0) := r0
    have r1' : (w3.drew).cell? ⟨w.heap.size, 1, none⟩ = some (.slice none 0 0) := r1
    have f0 : (w3.drew).frozen? ⟨w.heap.size, 0, none⟩ = false := HR3.out.frozen 0
    have f1 : (w3.drew).frozen? ⟨w.heap.size, 1, none⟩ = false := HR3.out.frozen 1
    have rl : w.heap.size < (w3.drew).heap.size := HR3.out.lt
    have g0 := HR3.out.frozen 0
    have g1 := HR3.out.frozen 1
    have hS3 : S (((w3.setCell ⟨w.heap.size, 0, none⟩ (.int .i64 0)).setCell ⟨w.heap.size, 1, none⟩ (.slice none 0 0)).drew) := by
      constructor
      · show World.cell? (World.setCell (World.setCell _ _ _) _ _) _ = _
        rw [World.cell?_setCell_far _ _ _ _ (fun e => hne e.symm), World.cell?_setCell_far _ _ _ _ (fun e => hne e.symm)]; exact HC1.out
      · show World.cell? (World.setCell (World.setCell _ _ _) _ _) _ = _
        rw [World.cell?_setCell_far _ _ _ _ (fun e => hne e.symm), World.cell?_setCell_far _ _ _ _ (fun e => hne e.symm)]; exact HC2.out
    go_simp
    refine hK _ _ hS3 ?_
    clear hK K
    (try simp only [Act.put, List.setIfInBounds_toArray, List.set_cons_zero, List.set_cons_succ])
    (repeat ((refine' wpSeq_take rfl _ (by rfl) ?_ ?_; rotate_left; focus (intro w' hS; (try dsimp only at hS); obtain ⟨s1, s2⟩ := hS; go_simp; (first | done | with_reducible rfl)); (try simp only [Act.put, List.setIfInBounds_toArray, List.set_cons_zero, List.set_cons_succ])); (try simp only [Act.put, List.setIfInBounds_toArray, List.set_cons_zero, List.set_cons_succ])))
    refine wpSeq_nil ?_
    have HR4 := hid ((HR3.out.set 0 (.int .i64 0)).set 1 (.slice none 0 0))
    clear hS3 S r0 r1 r0' r1' f0 f1 g0 g1
    go_wp2_with fail
    rw [HZ2.out]
    refine bodyPost_ret (results_cell3 rfl rfl (load_gr rfl (Blk.drew HR4.out))) rfl ⟨_, rfl, gr_zero _, ?_⟩
    exact (((HB3.out.setCell (Nat.le_refl _) _).setCell (Nat.le_refl _) _).drew)

end Go.Proofs.YtemmepgfngkgmaaGreatDoor

namespace Go.Proofs.YtemmepgfngkgmaaGreatDoor
open Go.RowKit
set_option linter.unusedVariables false
set_option linter.unusedSimpArgs false

theorem und_arcs : Tryz.prog.underlying 59 = some (.slice 147) := by kernel_rfl
theorem info_arc : (Tryz.prog.info? 147).map (fun i => (i.zero, i.size, i.bytes)) = some (some (.agg #[.int .i64 0, .int .i64 0, .int .i64 0]), 3, 24) := by kernel_rfl
theorem load_dg {w : World} {T : TypeId} (hT : T = 61) {b : Nat} {v0 v1 : Value} (h : Blk w b #[v0, v1] T) : (loadVar 61 ⟨b, 0, none⟩).run Tryz.prog w = .ok (.agg #[v0, v1]) w := by
  subst hT
  have hlt := h.lt
  have c0 := h.cell 0
  have c1 := h.cell 1
  simp only [List.getElem?_toArray, List.getElem?_cons_zero, List.getElem?_cons_succ] at c0 c1
  go_simp

set_option maxRecDepth 100000 in
set_option maxHeartbeats 2000000 in
theorem n_ReadDigraph (text : List UInt8) (w : World) (hE : Env w) :
    Calls Tryz.prog 35 #[.string (str text)] w (RetRd w (tableP wDigraph 62 false (opened (scanR text)))) := by
  obtain ⟨Z, hZ⟩ : ∃ Z, Z = tableP wDigraph 62 false (opened (scanR text)) := ⟨_, rfl⟩
  rw [← hZ]
  have HZ := hid hZ
  clear hZ
  have HE := hid hE
  clear hE
  go_enter Tryz.func35, Tryz.ntmps35
  go_wp2_with fail
  obtain ⟨W0, hW0⟩ : ∃ W : World, W = w.alloc (.cells #[.int .i64 0, .slice none 0 0] 61) := ⟨_, rfl⟩
  rw [← hW0]
  have HR := hid (show Blk W0 w.heap.size #[.int .i64 0, .slice none 0 0] 61 by rw [hW0]; exact Blk.new _ _ _)
  have HB0 := hid (show Below w.heap.size w W0 by rw [hW0]; exact (Below.refl _ _).alloc (Nat.le_refl _) _)
  clear hW0
  refine (n_digraphs W0).mono ?_
  rintro e w1 ⟨rfl, hB1⟩
  have HB1 := hid (up HB0.out hB1)
  have HR1 := hid (HR.out.below hB1)
  have HE1 := hid ((HE.out.below HB0.out).below hB1)
  clear hB1 HB0 HR HE
  dsimp only
  go_wp2_with fail
  refine (n_begin text wDigraph 62 111 w1 HE1.out).mono ?_
  rintro e w2 ⟨rb, tb, rfl, hrb, hT, hB2⟩
  have HB2 := hid (up HB1.out hB2)
  have HR2 := hid (HR1.out.below hB2)
  have HE2 := hid ((HE1.out.atB hrb).below hB2)
  have HRB : Hid (w.heap.size < rb) := by show _ < _; have := HR1.out.lt; omega
  unfold tableP at HZ
  dsimp only at HZ
  generalize hh : (opened (scanR text)).head wDigraph = h at *
  have hn : h.2.e = 0 → 1 ≤ h.1 ∧ h.1 ≤ 12 := fun e => by rw [← hh] at e ⊢; exact head_ok e
  obtain ⟨n, s⟩ := h
  dsimp only at HZ hn hT
  have HTL := hid (tabL_ok hT.1 62 false n)
  dsimp only
  go_wp2_with fail
  refine (n_tableA false 62 wDigraph 111 ends_kept fn_kept n s hn rb tb w2 HE2.out hT).mono ?_
  rintro e w3 ⟨v, rfl, ho, ht, hg⟩
  clear hh hn hT hB2 hrb HB1 HR1 HE1
  generalize tabL 62 false n s.ts.length [] s = t at *
  obtain ⟨es, s'⟩ := t
  dsimp only at HZ ho ht HTL
  have HR3 := hid (HR2.out.grown hg (fun e => by have := HRB.out; simp at e; omega))
  have HB3 : Hid (Below w.heap.size w w3) := HB2.out.grown hg HB2.out.size (fun q hq => by have := HRB.out; simp at hq; omega)
  have HO := hid ho
  have HT := hid ht
  clear ho ht hg HB2 HR2 HE2
  have c1 := HT.out.rest.1
  have c6 := HT.out.rest.2.2.2.2
  obtain ⟨off, cap, d1, d2, d3, d4, d5, d6, d7, d8, d9, d10, d11, d12⟩ := HT.out.cells
  have hrl := HT.out.lt
  have HC1 := hid d7
  have HC2 := hid d8
  clear d1 d2 d3 d4 d5 d6 d7 d8 d9 d10 d11 d12
  by_cases he : s'.e = 0
  · rw [he] at c1
    have HZ2 : Hid (Z = (⟨n, es⟩, 0, 0)) := by have h := HZ.out; rw [if_neg (by rw [he]; simp)] at h; exact h
    clear HZ he
    obtain ⟨i0, hi, hz0, hz1, hz2⟩ := info_parts info_arc
    have HL := hid (owns_linesR HO.out)
    obtain ⟨a, cap, rfl, hcap, hcm, _⟩ := HL.out
    have hes := HTL.out
    obtain ⟨D, hD⟩ : ∃ D, Hid (D = w3.heap.size) := ⟨_, rfl⟩
    have HRD : Hid (w.heap.size < D) := by show _ < _; rw [hD.out]; exact HR3.out.lt
    clear HO HC1 HC2
    go_wp2_with fail
    rw [← hD.out]
    clear c1 c6 hrl HT HRB
    go_loopw [39] (fun i wr => ∃ k : Nat, ∃ u : Value, k ≤ es.length ∧ i = .int .i64 k ∧ Hid (Blk wr (D) #[.int .i64 n, u] 61) ∧ Hid (wr.ownsRow (D + 1) 147 3 u k ((es.take k).flatMap E.cells)) ∧ Hid (Below w3.heap.size w3 wr))
      (fun i _ => es.length - (intOf i).toNat)
    case atStart => exact ⟨0, _, Nat.zero_le _, rfl, (by rw [hD.out]; exact Blk.new w3 #[.int .i64 n, .slice none 0 0] 61), World.ownsRow_nil _ _ _ _, (by show Below _ _ _; exact (Below.refl _ _).alloc (Nat.le_refl _) _)⟩
    case round =>
      obtain ⟨k, u, hkn, rfl, HB0, HO, HB⟩ := hrel
      by_cases hlt : k < es.length
      · obtain ⟨a', cap', ea, _, _, hc⟩ := HL.out.below HB.out
        injection ea with ea1 _ ea3
        subst ea1
        rcases hc with rfl | ⟨b, off, rfl, hb, hc⟩
        · simp at hlt
        obtain ⟨c0, c1, c2, p, c3⟩ := hc k hlt
        have hst := hid (take_step es k hlt)
        have hlt' : (k : Int) < (es.length : Int) := by omega
        have hk0 : (0 : Int) ≤ (k : Int) := by omega
        clear hc
        generalize hx : es[k]?.getD default = x at *
        obtain ⟨xa, xb, xm⟩ := x
        dsimp only at c0 c1 c2
        clear hx
        go_upto_region 9 with fail
        have hs := HB.out.size
        have hbw : D + 1 ≤ wr.heap.size := by
          have := HB0.out.lt
          omega
        have HX := hid (Blk.new wr #[.int .i64 xa, .int .i64 xb, .int .i64 xm, .int .i64 p] 149)
        have HB1 := hid (HB0.out.alloc (.cells #[.int .i64 xa, .int .i64 xb, .int .i64 xm, .int .i64 p] 149))
        have HO1 := hid (HO.out.alloc (.cells #[.int .i64 xa, .int .i64 xb, .int .i64 xm, .int .i64 p] 149))
        have HB2 := hid (HB.out.alloc hs (.cells #[.int .i64 xa, .int .i64 xb, .int .i64 xm, .int .i64 p] 149))
        have hGX : D < wr.heap.size := HB0.out.lt
        generalize hX : wr.heap.size = X at *
        generalize wr.alloc (.cells #[.int .i64 xa, .int .i64 xb, .int .i64 xm, .int .i64 p] 149) = W1 at *
        have x0 := HX.out.cell 0
        have x1 := HX.out.cell 1
        have x2 := HX.out.cell 2
        have g0 := HB1.out.cell 0
        have g1 := HB1.out.cell 1
        simp only [List.getElem?_toArray, List.getElem?_cons_zero, List.getElem?_cons_succ] at x0 x1 x2 g0 g1
        have hXl := HX.out.lt
        have hGl := HB1.out.lt
        have hs1 := HB2.out.size
        clear c0 c1 c2 c3 HB0 HO HB
        have hne : u.ownBlock ≠ some (D) := fun e => by have := (HO1.out.lt _ e).1; omega
        go_wp2_with (at_builtin; refine wpList_append_own _ rfl _ _ 59 rfl (D + 1) 147 i0 (.agg #[.int .i64 0, .int .i64 0, .int .i64 0]) 3 24 und_arcs hi hz0 hz1 hz2 rfl (by decide) _ k _ rfl (HO1.out.alloc _) ⟨W1.heap.size, 0, none⟩ 1 1 [.int .i64 xa, .int .i64 xb, .int .i64 xm] rfl rfl (fun j u h => trip_news W1 xa xb xm _ j u h) (by simp [Value.oneCell']) (by unfold maxLen; omega) (by omega) (by simp; omega) ?_; intro v' w2 hown2 hgr2 _; have HO2 := hid hown2; have HG := hid ((Below.toGrown ((Below.refl _ W1).alloc (Nat.le_refl _) (.cells #[.int .i64 xa, .int .i64 xb, .int .i64 xm] 147)) u.ownBlock).trans hgr2); obtain ⟨av, cv, ev, _⟩ := owns_at hown2; subst ev; have HG2 := hid (HB1.out.grown HG.out hne); have g3 := HG2.out.cell 1; simp only [List.getElem?_toArray, List.getElem?_cons_zero, List.getElem?_cons_succ] at g3; have g4 := HG2.out.frozen 1; have g5 := HG2.out.lt; clear hown2 hgr2)
        go_roundw
        case rel =>
          refine ⟨k + 1, by omega, by go_num, .slice av (k + 1) cv, ?_, ?_, ?_⟩
          · show Blk _ _ (#[Value.int .i64 n, u].setIfInBounds 1 (.slice av (k + 1) cv)) _
            exact HG2.out.set 1 _
          · show World.ownsRow _ _ _ _ _ _ _
            rw [hst.out, flat_append]
            exact HG2.out.owns HO2.out (fun e => by have := (HO2.out.lt _ e).1; omega) 1 _
          · show Below _ _ _
            exact (HB2.out.grown HG.out hs1 (fun q hq => by have := (HO1.out.lt q hq).1; have := hD.out; omega)).setCell (show w3.heap.size ≤ D by have := hD.out; omega) _
        case measure => simp [intOf]; omega
      · obtain rfl : k = es.length := by omega
        rw [List.take_length] at HO
        have hlt' : ¬ (es.length : Int) < (es.length : Int) := by omega
        have HR4 := hid (HR3.out.below HB.out)
        have HB4 := hid (up HB3.out HB.out)
        have g0 := HB0.out.cell 0
        have g1 := HB0.out.cell 1
        have r0 := HR4.out.cell 0
        have r1 := HR4.out.cell 1
        simp only [List.getElem?_toArray, List.getElem?_cons_zero, List.getElem?_cons_succ] at g0 g1 r0 r1
        have g4 := HR4.out.frozen 0
        have g5 := HR4.out.frozen 1
        have hR := HR4.out.lt
        have hG := HB0.out.lt
        clear HL hcap hcm
        obtain ⟨au, cu, eu, _⟩ := owns_at HO.out
        subst eu
        go_wp2_with fail
        have HR5 := hid ((HR4.out.set 0 (.int .i64 n)).set 1 (.slice au es.length cu))
        rw [HZ2.out]
        have hq : (Value.slice au es.length cu).ownBlock ≠ some w.heap.size := fun e => by have := (HO.out.lt _ e).1; have := HRD.out; omega
        refine bodyPost_ret (results_cell3 rfl rfl (load_dg rfl HR5.out)) rfl ⟨_, rfl, ⟨_, rfl, ?_⟩, ?_⟩
        · exact owns_edges ((HR4.out.set 0 (.int .i64 n)).owns (HR4.out.owns HO.out hq 0 _) hq 1 _) (show es.length * 24 ≤ 140737488355328 by omega)
        · exact (HB4.out.setCell (Nat.le_refl _) _).setCell (Nat.le_refl _) _
  · have HZ2 : Hid (Z = (⟨0, []⟩, s'.pl, s'.e)) := by have h := HZ.out; rw [if_pos he] at h; exact h
    have he1 : (s'.e != 0) = true := by simpa using he
    clear HZ he
    go_upto_region 4 with fail
    have r0 := HR3.out.cell 0
    have r1 := HR3.out.cell 1
    simp only [List.getElem?_toArray, List.getElem?_cons_zero, List.getElem?_cons_succ] at r0 r1
    have hne : rb ≠ w.heap.size := by have := HRB.out; omega
    let S : World → Prop := fun W' => W'.cell? ⟨rb, 1, none⟩ = some (.int .i64 s'.e) ∧ W'.cell? ⟨rb, 2, none⟩ = some (.int .i64 s'.pl)
    (refine wp_region_text 13 [0,1,2,3,4,5,6,7,8,9,10,11,12] S (by kernel_rfl) (by kernel_rfl) (by intro _ _ d _ _ h; cases d <;> exact h) ?hS ?_; rotate_left; simp only [List.map_cons, List.map_nil, List.getD_cons_zero, List.getD_cons_succ, List.drop_succ_cons, List.drop_zero])
    case hS => exact ⟨HC1.out, HC2.out⟩
    (repeat ((refine' wpSeq_take rfl _ (by rfl) ?_ ?_; rotate_left; focus (intro w' hS; (try dsimp only at hS); obtain ⟨s1, s2⟩ := hS; go_simp; (first | done | with_reducible rfl)); (try simp only [Act.put, List.setIfInBounds_toArray, List.set_cons_zero, List.set_cons_succ])); (try simp only [Act.put, List.setIfInBounds_toArray, List.set_cons_zero, List.set_cons_succ])))
    refine wpSeq_call rfl (by rfl) (fun K hK => ?_)
    have r0' : (w3.drew).cell? ⟨w.heap.size, 0, none⟩ = some (.int .i64 0) := r0
    have r1' : (w3.drew).cell? ⟨w.heap.size, 1, none⟩ = some (.slice none 0 0) := r1
    have f0 : (w3.drew).frozen? ⟨w.heap.size, 0, none⟩ = false := HR3.out.frozen 0
    have f1 : (w3.drew).frozen? ⟨w.heap.size, 1, none⟩ = false := HR3.out.frozen 1
    have rl : w.heap.size < (w3.drew).heap.size := HR3.out.lt
    have g0 := HR3.out.frozen 0
    have g1 := HR3.out.frozen 1
    have hS3 : S (((w3.setCell ⟨w.heap.size, 0, none⟩ (.int .i64 0)).setCell ⟨w.heap.size, 1, none⟩ (.slice none 0 0)).drew) := by
      constructor
      · show World.cell? (World.setCell (World.setCell _ _ _) _ _) _ = _
        rw [World.cell?_setCell_far _ _ _ _ (fun e => hne e.symm), World.cell?_setCell_far _ _ _ _ (fun e => hne e.symm)]; exact HC1.out
      · show World.cell? (World.setCell (World.setCell _ _ _) _ _) _ = _
        rw [World.cell?_setCell_far _ _ _ _ (fun e => hne e.symm), World.cell?_setCell_far _ _ _ _ (fun e => hne e.symm)]; exact HC2.out
    go_simp
    refine hK _ _ hS3 ?_
    clear hK K
    (try simp only [Act.put, List.setIfInBounds_toArray, List.set_cons_zero, List.set_cons_succ])
    (repeat ((refine' wpSeq_take rfl _ (by rfl) ?_ ?_; rotate_left; focus (intro w' hS; (try dsimp only at hS); obtain ⟨s1, s2⟩ := hS; go_simp; (first | done | with_reducible rfl)); (try simp only [Act.put, List.setIfInBounds_toArray, List.set_cons_zero, List.set_cons_succ])); (try simp only [Act.put, List.setIfInBounds_toArray, List.set_cons_zero, List.set_cons_succ])))
    refine wpSeq_nil ?_
    have HR4 := hid ((HR3.out.set 0 (.int .i64 0)).set 1 (.slice none 0 0))
    clear hS3 S r0 r1 r0' r1' f0 f1 g0 g1
    go_wp2_with fail
    rw [HZ2.out]
    refine bodyPost_ret (results_cell3 rfl rfl (load_dg rfl (Blk.drew HR4.out))) rfl ⟨_, rfl, gr_zero _, ?_⟩
    exact (((HB3.out.setCell (Nat.le_refl _) _).setCell (Nat.le_refl _) _).drew)

end Go.Proofs.YtemmepgfngkgmaaGreatDoor
