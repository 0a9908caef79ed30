/-
  Contracts: graph.Size. Edges that are read one by one make a graph. Contract of the notation: ReadRibbon. The library's strings.Join laid at this program.
-/
import Derived.Test.YtemmepgfngkgmaaGreatDoorN23
import Derived.Test.YtemmepgfngkgmaaGreatDoorP30
import Derived.Shelf.Strings.OnBuilder
namespace Go.Proofs.YtemmepgfngkgmaaGreatDoor
open Go.RowKit
set_option linter.unusedVariables false
set_option linter.unusedSimpArgs false

set_option maxRecDepth 100000 in
set_option maxHeartbeats 1000000 in
theorem p_EndsE (g : G) (gv : Value) (w : World) (hg : GrR w gv g) (hk : checkErr g ≠ 0) :
    Calls Tryz.prog 108 #[gv] w fun e w' => e = .returned (.tuple #[.slice none 0 0, .int .i64 (checkErr g)]) ∧ Below w.heap.size w w' := by
  have HCK := hid (fun w hg => p_Check g gv w hg)
  have HG := hid hg
  generalize checkErr g = z at *
  obtain ⟨ev, rfl, hE⟩ := hg
  obtain ⟨a, cap, rfl, _⟩ := hE
  have hgb := hid (Blk.new w #[.int .i64 g.n, .slice a g.es.length cap] 24)
  have HB0 := hid ((Below.refl w.heap.size w).alloc (Nat.le_refl _) (.cells #[.int .i64 g.n, .slice a g.es.length cap] 24))
  have HG1 := hid (HG.out.below HB0.out)
  go_enter Tryz.func108, Tryz.ntmps108
  go_upto_region 1 with fail
  generalize w.alloc (.cells #[.int .i64 g.n, .slice a g.es.length cap] 24) = W0 at *
  have c0 : W0.cell? ⟨w.heap.size, 0, none⟩ = some (.int .i64 g.n) := (hgb.out.cell 0).trans rfl
  have c1 : W0.cell? ⟨w.heap.size, 1, none⟩ = some (.slice a g.es.length cap) := (hgb.out.cell 1).trans rfl
  have hgl := hgb.out.lt
  go_wp2_with fail
  refine (HCK.out W0 HG1.out).mono ?_
  rintro e w1 ⟨rfl, hB1⟩
  have HB1 := hid (up HB0.out hB1)
  have hc1 : (z != 0) = true := by simpa using hk
  clear hB1 c0 c1 hgl hk
  dsimp only
  go_wp2_with fail
  refine bodyPost_ret (results_two rfl _ _ _) rfl ?_
  exact ⟨rfl, HB1.out⟩
def sizeV (g : G) : Value := .tuple #[.int .i64 (if checkErr g = 0 then ((endsOf g.es).length : Int) else 0), .int .i64 (checkErr g)]
set_option maxRecDepth 100000 in
set_option maxHeartbeats 1000000 in
theorem p_Size (g : G) (gv : Value) (w : World) (hg : GrR w gv g) :
    Calls Tryz.prog 55 #[gv] w fun e w' => e = .returned (sizeV g) ∧ Below w.heap.size w w' := by
  obtain ⟨Z, HZ⟩ : ∃ Z, Hid (Z = sizeV g) := ⟨_, rfl⟩
  rw [← HZ.out]
  have HG := hid hg
  obtain ⟨ev, rfl, hE⟩ := hg
  obtain ⟨a, cap, rfl, _⟩ := hE
  have hgb := hid (Blk.new w #[.int .i64 g.n, .slice a g.es.length cap] 24)
  have HB0 := hid ((Below.refl w.heap.size w).alloc (Nat.le_refl _) (.cells #[.int .i64 g.n, .slice a g.es.length cap] 24))
  have HG1 := hid (HG.out.below HB0.out)
  go_enter Tryz.func55, Tryz.ntmps55
  go_upto_region 1 with fail
  generalize w.alloc (.cells #[.int .i64 g.n, .slice a g.es.length cap] 24) = W0 at *
  have c0 : W0.cell? ⟨w.heap.size, 0, none⟩ = some (.int .i64 g.n) := (hgb.out.cell 0).trans rfl
  have c1 : W0.cell? ⟨w.heap.size, 1, none⟩ = some (.slice a g.es.length cap) := (hgb.out.cell 1).trans rfl
  have hgl := hgb.out.lt
  go_wp2_with fail
  by_cases hc : checkErr g = 0
  · have HZ2 : Hid (Z = .tuple #[.int .i64 ((endsOf g.es).length : Int), .int .i64 0]) := by have h := HZ.out; unfold sizeV at h; rw [if_pos hc, hc] at h; exact h
    refine (p_Ends g _ W0 HG1.out hc).mono ?_
    rintro e w1 ⟨v, rfl, ho, hB1⟩
    have HB1 := hid (up HB0.out hB1)
    obtain ⟨ea, ecap, rfl, _⟩ := owns_at ho
    clear ho hB1 hc
    dsimp only
    go_wp2_with fail
    refine bodyPost_ret (results_two rfl _ _ _) rfl ?_
    rw [HZ2.out]
    exact ⟨rfl, HB1.out⟩
  · have HZ2 : Hid (Z = .tuple #[.int .i64 0, .int .i64 (checkErr g)]) := by have h := HZ.out; unfold sizeV at h; rw [if_neg hc] at h; exact h
    refine (p_EndsE g _ W0 HG1.out hc).mono ?_
    rintro e w1 ⟨rfl, hB1⟩
    have HB1 := hid (up HB0.out hB1)
    clear hB1
    dsimp only
    go_wp2_with fail
    refine bodyPost_ret (results_two rfl _ _ _) rfl ?_
    rw [HZ2.out]
    exact ⟨rfl, HB1.out⟩

/-! ## What exact reads is a graph -/
theorem firstNZ_none (f : Nat → Int) : ∀ n i, (∀ k, i ≤ k → k < i + n → f k = 0) → firstNZ f i n = 0
  | 0, _, _ => rfl
  | n + 1, i, h => by
    unfold firstNZ
    rw [if_neg (by rw [h i (Nat.le_refl _) (by omega)]; simp)]
    exact firstNZ_none f n (i + 1) (fun k h1 h2 => h k (by omega) (by omega))
def EdOk (n : Int) (es : List E) : Prop := ∀ k, k < es.length → edgeErr ⟨n, es⟩ k = 0
theorem EdOk.check {n : Int} {es : List E} (h : EdOk n es) (h1 : 1 ≤ n) (h2 : n ≤ 12) : checkErr ⟨n, es⟩ = 0 := by
  unfold checkErr
  rw [if_neg (by show ¬ (n < 1 ∨ 12 < n); omega)]
  exact firstNZ_none _ _ _ (fun k _ hk => h k (by simpa using hk))
theorem EdOk.push {n : Int} {es : List E} (h : EdOk n es) {x : Ln} (ha : 0 ≤ x.a ∧ x.a ≤ n - 1) (hb : 0 ≤ x.b ∧ x.b ≤ n - 1) (hm : 1 ≤ x.m ∧ x.m ≤ 50) (hx : ¬ badL es x) : EdOk n (es ++ [lnE x]) := by
  intro k hk
  by_cases hke : k < es.length
  · have h1 := h k hke
    unfold edgeErr at h1 ⊢
    dsimp only at h1 ⊢
    rw [List.getElem?_append_left hke, List.getElem?_append_left (by omega)]
    exact h1
  · obtain rfl : k = es.length := by simp at hk; omega
    have e0 : ((es ++ [lnE x])[es.length]?.getD default) = lnE x := by rw [List.getElem?_append_right (Nat.le_refl _), Nat.sub_self]; rfl
    unfold edgeErr
    dsimp only
    rw [e0]
    unfold badL at hx
    by_cases h0 : 0 < es.length
    · rw [List.getElem?_append_left (by omega)]
      rw [if_neg, if_neg, if_neg]
      · show ¬ (0 < es.length ∧ _); intro hh; exact hx (.inr hh)
      · intro hh; exact hx (.inl hh)
      · unfold vtx lnE
        simp
        omega
    · rw [if_neg, if_neg, if_neg]
      · intro hh; exact h0 hh.1
      · intro hh; exact hx (.inl hh)
      · unfold vtx lnE
        simp
        omega
theorem exactG_ok (n : Int) (hn : 1 ≤ n ∧ n ≤ 12) : ∀ f es s, TsOk s.ts → EdOk n es → (exactG n f es s).2.e = 0 → EdOk n (exactG n f es s).1
  | 0, es, s, _, h, _ => h
  | f + 1, es, s, ht, h, he => by
    by_cases hs : s.e ≠ 0 ∨ s.is [59] = true
    · rw [exactG_end hs]; exact h
    · have hl := line_ts ht 45 n
      rw [exactG_step hs f (s.line 45 n).1 (s.line 45 n).2 rfl] at he ⊢
      generalize s.line 45 n = p at *
      by_cases h1 : p.2.e ≠ 0
      · rw [if_pos h1] at he; exact absurd he h1
      · rw [if_neg h1] at he ⊢
        by_cases h2 : badL es p.1
        · rw [if_pos h2] at he; exact (fail_e (by decide) he).elim
        · rw [if_neg h2] at he ⊢
          have h3 := hl.2.2 (by omega)
          exact exactG_ok n hn f _ _ hl.1 (h.push ⟨by omega, by omega⟩ ⟨by omega, by omega⟩ ⟨by omega, by omega⟩ h2) he
theorem need_e {s : Rs} {t : List UInt8} (h : (s.need t).e = 0) : s.e = 0 := (Rs.is_kind (need_ok h).1).2.1
theorem exact_check {n : Int} {s : Rs} (hn : s.e = 0 → 1 ≤ n ∧ n ≤ 12) (ht : TsOk s.ts) (h : ((exactG n s.ts.length [] s).2.need [59]).e = 0) : checkErr ⟨n, (exactG n s.ts.length [] s).1⟩ = 0 ∧ s.e = 0 := by
  have he := need_e h
  have hs : s.e = 0 := by
    by_cases hs : s.e = 0
    · exact hs
    · rw [exactG_end (.inl hs)] at he; exact he
  exact ⟨(exactG_ok n (hn hs) _ _ _ ht (fun k hk => by simp at hk) he).check (hn hs).1 (hn hs).2, hs⟩
theorem exactG_ts (n : Int) : ∀ f es s, TsOk s.ts → TsOk (exactG n f es s).2.ts
  | 0, es, s, ht => ht
  | f + 1, es, s, ht => by
    by_cases hs : s.e ≠ 0 ∨ s.is [59] = true
    · rw [exactG_end hs]; exact ht
    · have hl := line_ts ht 45 n
      rw [exactG_step hs f (s.line 45 n).1 (s.line 45 n).2 rfl]
      generalize s.line 45 n = p at *
      split
      · exact hl.1
      · split
        · rw [fail_ts]; exact hl.1
        · exact exactG_ts n f _ _ hl.1

/-! ## Ribbon graphs -/
/-- v is a ribbon graph that reads as p in w. -/
def RibR (w : World) (v : Value) (p : G × List (List Int)) : Prop := ∃ ev lv, v = .agg #[.int .i64 p.1.n, ev, lv] ∧ EdgesR w ev p.1.es ∧ LsR w lv p.2
theorem RibR.below {w w' : World} {v : Value} {p : G × List (List Int)} (h : RibR w v p) (hb : Below w.heap.size w w') : RibR w' v p := by
  obtain ⟨gv, lv, h1, h2, h3⟩ := h
  exact ⟨gv, lv, h1, h2.below hb, h3.below hb⟩
/-- What a text of a ribbon graph is read as: the ribbon graph, the place, the error. -/
def ribP (s : Rs) : (G × List (List Int)) × Int × Int :=
  let h := s.head wRibbon
  let x := exactG h.1 h.2.ts.length [] h.2
  let s2 := x.2.need [59]
  if s2.e ≠ 0 then ((⟨0, []⟩, []), s2.pl, s2.e)
  else
    let y := listsG h.1 (2 * ((endsOf x.1).length : Int)) s2.ts.length [[]] s2
    let t := finL h.1 y
    if t.e ≠ 0 then ((⟨0, []⟩, []), t.pl, t.e) else ((⟨h.1, x.1⟩, y.1), 0, 0)
def RetRib (w : World) (z : (G × List (List Int)) × Int × Int) (e : Ending) (w' : World) : Prop :=
  ∃ rv, e = .returned (.tuple #[rv, .int .i64 z.2.1, .int .i64 z.2.2]) ∧ RibR w' rv z.1 ∧ Below w.heap.size w w'
theorem rib_zero (w : World) : RibR w (.agg #[.int .i64 0, .slice none 0 0, .slice none 0 0]) (⟨0, []⟩, []) :=
  ⟨_, _, rfl, (by obtain ⟨ev, h1, h2⟩ := gr_zero w; injection h1 with h1; simp at h1; subst h1; exact h2), none, 0, [], rfl, Nat.le_refl _, by omega, by decide, .inl rfl, rfl, fun i hi => by simp at hi⟩
theorem load_rib {w : World} {b : Nat} {v0 v1 v2 : Value} (h : Blk w b #[v0, v1, v2] 40) : (loadVar 40 ⟨b, 0, none⟩).run Tryz.prog w = .ok (.agg #[v0, v1, v2]) w := by
  have hlt := h.lt
  have c0 := h.cell 0
  have c1 := h.cell 1
  have c2 := h.cell 2
  simp only [List.getElem?_toArray, List.getElem?_cons_zero, List.getElem?_cons_succ] at c0 c1 c2
  go_simp

end Go.Proofs.YtemmepgfngkgmaaGreatDoor

namespace Go.Proofs.YtemmepgfngkgmaaGreatDoor
open Go.RowKit
set_option linter.unusedVariables false
set_option linter.unusedSimpArgs false

theorem hnk {w : World} {base : Nat} {e : TypeId} {size : Nat} {v : Value} {n : Nat} {xs : List Value} (b : Nat) (h : w.ownsRow base e size v n xs) (hk : b < base) : ∀ k, v.ownBlock = some k → some b ≠ some k := fun k hk2 e => by
  have := (h.lt k hk2).1
  simp at e
  omega
set_option maxRecDepth 100000 in
set_option maxHeartbeats 4000000 in
theorem n_ReadRibbon (text : List UInt8) (w : World) (hE : Env w) :
    Calls Tryz.prog 22 #[.string (str text)] w (RetRib w (ribP (opened (scanR text)))) := by
  obtain ⟨Z, hZ⟩ : ∃ Z, Z = ribP (opened (scanR text)) := ⟨_, rfl⟩
  rw [← hZ]
  have HZ := hid hZ
  clear hZ
  have HE := hid hE
  clear hE
  go_enter Tryz.func22, Tryz.ntmps22
  go_wp2_with fail
  obtain ⟨W0, hW0⟩ : ∃ W : World, W = w.alloc (.cells #[.int .i64 0, .slice none 0 0, .slice none 0 0] 40) := ⟨_, rfl⟩
  rw [← hW0]
  have HR := hid (show Blk W0 w.heap.size #[.int .i64 0, .slice none 0 0, .slice none 0 0] 40 by rw [hW0]; exact Blk.new _ _ _)
  have HB0 := hid (show Below w.heap.size w W0 by rw [hW0]; exact (Below.refl _ _).alloc (Nat.le_refl _) _)
  clear hW0
  refine (n_ribbons W0).mono ?_
  rintro e w1 ⟨rfl, hB1⟩
  have HB1 := hid (up HB0.out hB1)
  have HR1 := hid (HR.out.below hB1)
  have HE1 := hid ((HE.out.below HB0.out).below hB1)
  clear hB1 HB0 HR HE
  dsimp only
  go_wp2_with fail
  refine (n_begin text wRibbon 45 111 w1 HE1.out).mono ?_
  rintro e w2 ⟨rb, tb, rfl, hrb, hT, hB2⟩
  have HB2 := hid (up HB1.out hB2)
  have HR2 := hid (HR1.out.below hB2)
  have HE2 := hid ((HE1.out.atB hrb).below hB2)
  have HRB : Hid (w.heap.size < rb) := by show _ < _; have := HR1.out.lt; omega
  unfold ribP at HZ
  dsimp only at HZ
  generalize hh : (opened (scanR text)).head wRibbon = h at *
  have hn : h.2.e = 0 → 1 ≤ h.1 ∧ h.1 ≤ 12 := fun e => by rw [← hh] at e ⊢; exact head_ok e
  obtain ⟨n, s⟩ := h
  dsimp only at HZ hn hT
  have hTl := hT.lt
  have HXC := hid (fun h => exact_check hn hT.1 h)
  have HXT := hid (exactG_ts n s.ts.length [] s hT.1)
  dsimp only
  go_wp2_with fail
  refine (n_exact n s hn rb tb w2 HE2.out hT).mono ?_
  rintro e w3 ⟨ev, rfl, hev, ht, hgr⟩
  have HN := hid hn
  clear hh hn hT hB2 hrb HB1 HR1 HE1
  generalize exactG n s.ts.length [] s = x at *
  obtain ⟨es, s1⟩ := x
  have hrl2 := hTl
  dsimp only at HZ hev ht HXC HXT
  have HBW2 := hid HB2.out.size
  have HR3 := hid (HR2.out.grown hgr (fun e => by have := HRB.out; simp at e; omega))
  have HB3 : Hid (Below w.heap.size w w3) := HB2.out.grown hgr HB2.out.size (fun q hq => by have := HRB.out; simp at hq; omega)
  have HE3 := hid (HE2.out.grown hgr)
  have HT := hid ht
  have HV := hid hev
  clear ht hgr HB2 HR2 HE2
  generalize hs2 : s1.need [59] = s2 at *
  have HTS : Hid (TsOk s2.ts) := HT.out.1
  obtain ⟨ea, ecap, rfl, _⟩ := owns_at hev
  clear hev
  have hrl := HT.out.lt
  dsimp only
  go_upto_region 3 with fail
  have HGB := hid (Blk.new w3 #[.int .i64 n, .slice ea es.length ecap] 24)
  have HB4 := hid (HB3.out.alloc HB3.out.size (.cells #[.int .i64 n, .slice ea es.length ecap] 24))
  have hst := (Below.refl w3.heap.size w3).alloc (Nat.le_refl _) (.cells #[.int .i64 n, .slice ea es.length ecap] 24)
  have HT4 := hid (HT.out.below hst)
  have HV4 := hid (owns_below HV.out hst)
  have HE4 := hid (HE3.out.below hst)
  have HR4 := hid (HR3.out.below hst)
  have HRB2 : Hid (rb < w2.heap.size) := hrl2
  have HXR : Hid (rb < w3.heap.size) := hrl
  have HXW : Hid (w.heap.size < w3.heap.size) := HR3.out.lt
  clear hst hrl HB3 HT HV HE3 HR3
  generalize w3.alloc (.cells #[.int .i64 n, .slice ea es.length ecap] 24) = W4 at *
  generalize w3.heap.size = X at *
  have c1 := HT4.out.rest.1
  have hrl := HT4.out.lt
  by_cases he : s2.e = 0
  · rw [he] at c1
    have hz := HZ.out
    rw [if_neg (by rw [he]; simp)] at hz
    have HZ := hid hz
    obtain ⟨hck, hs0⟩ := HXC.out he
    have HCK := hid hck
    have HN2 := hid (HN.out hs0)
    have g0 : W4.cell? ⟨X, 0, none⟩ = some (.int .i64 n) := (HGB.out.cell 0).trans rfl
    have g1 : W4.cell? ⟨X, 1, none⟩ = some (.slice ea es.length ecap) := (HGB.out.cell 1).trans rfl
    have hxl := HGB.out.lt
    have hlen := Gok.len hck
    have HSV : Hid (sizeV ⟨n, es⟩ = .tuple #[.int .i64 ((endsOf es).length : Int), .int .i64 0]) := by show _ = _; unfold sizeV; rw [if_pos hck, hck]
    have HSB : Hid ((endsOf es).length ≤ 7200) := by
      have h1 := endsOf_len es 50 (fun y hy => by have := Gok.mem hck hy; omega)
      show _ ≤ _
      have : es.length ≤ 144 := hlen
      omega
    have HLE : Hid (es.length ≤ 144) := hlen
    have HG4 : Hid (GrR W4 (.agg #[.int .i64 n, .slice ea es.length ecap]) ⟨n, es⟩) := ⟨_, rfl, owns_edges HV4.out (show es.length * 24 ≤ 140737488355328 by have : es.length ≤ 144 := hlen; omega)⟩
    have HPS := hid (p_Size ⟨n, es⟩ (.agg #[.int .i64 n, .slice ea es.length ecap]) W4 HG4.out)
    rw [HSV.out] at HPS
    clear hz hck hs0 HXC HN he HSV hlen
    go_wp2_with fail
    refine HPS.out.mono ?_
    rintro e w5 ⟨rfl, hB5⟩
    have HT5 := hid (HT4.out.below hB5)
    have HV5 := hid (owns_below HV4.out hB5)
    have HE5 := hid (HE4.out.below hB5)
    have HR5 := hid (HR4.out.below hB5)
    have HB5 := hid (up HB4.out hB5)
    have HGB5 := hid (HGB.out.below hB5)
    clear hB5 HT4 HV4 HG4 HE4 HR4 HB4 HGB HPS c1 hrl g0 g1 hxl
    generalize hL : (endsOf es).length = L at *
    have hLb : L ≤ 7200 := HSB.out
    have wl : IntKind.i64.wrap (2 * (L : Int)) = 2 * (L : Int) := IntWalk.i64_in _ (by omega)
    dsimp only
    go_wp2_with fail
    refine (n_lists n (2 * (L : Int)) HN2.out ⟨by omega, by omega⟩ s2 rb tb w5 HE5.out HT5.out).mono ?_
    rintro e w6 ⟨lv, rfl, hls, ht6, hg6⟩
    have HL6 := hid hls
    have HRL5 := hid HR5.out.lt
    have HT6 := hid ht6
    have HR6 := hid (HR5.out.grown hg6 (fun e => by have := HRB.out; simp at e; omega))
    have HGB6 := hid (HGB5.out.grown hg6 (fun e => by have := HXR.out; simp at e; omega))
    have HB6 : Hid (Below w.heap.size w w6) := HB5.out.grown hg6 HB5.out.size (fun q hq => by have := HRB.out; simp at hq; omega)
    have HV6 := hid (kept_row HV5.out hg6 (fun k hk e => by have := (HV5.out.lt k hk).1; have := HRB2.out; simp at e; omega))
    clear hls ht6 hg6 HT5 HV5 HE5 HR5 HB5 HGB5 hL wl
    generalize hy : listsG n (2 * (L : Int)) s2.ts.length [[]] s2 = y at *
    obtain ⟨ls, s3⟩ := y
    have HZ : Hid (Z = if (finL n (ls, s3)).e ≠ 0 then ((⟨0, []⟩, []), (finL n (ls, s3)).pl, (finL n (ls, s3)).e) else ((⟨n, es⟩, ls), 0, 0)) := HZ
    have HL6 : Hid (LsO w6 w5.heap.size lv ls) := HL6
    generalize finL n (ls, s3) = s4 at *
    clear hy
    have c1 := HT6.out.rest.1
    have hrl := HT6.out.lt
    by_cases he4 : s4.e = 0
    · rw [he4] at c1
      have HZ2 : Hid (Z = ((⟨n, es⟩, ls), 0, 0)) := by have h := HZ.out; rw [if_neg (by rw [he4]; simp)] at h; exact h
      have g0 : w6.cell? ⟨X, 0, none⟩ = some (.int .i64 n) := (HGB6.out.cell 0).trans rfl
      have g1 : w6.cell? ⟨X, 1, none⟩ = some (.slice ea es.length ecap) := (HGB6.out.cell 1).trans rfl
      have hxl := HGB6.out.lt
      have r0 := HR6.out.cell 0
      have r1 := HR6.out.cell 1
      have r2 := HR6.out.cell 2
      simp only [List.getElem?_toArray, List.getElem?_cons_zero, List.getElem?_cons_succ] at r0 r1 r2
      have f0 := HR6.out.frozen 0
      have f1 := HR6.out.frozen 1
      have f2 := HR6.out.frozen 2
      have rl := HR6.out.lt
      clear HZ he4
      obtain ⟨la, lcap, rfl⟩ : ∃ la lcap, lv = .slice la ls.length lcap := by obtain ⟨a, c, _, h, _⟩ := HL6.out.read; exact ⟨a, c, h⟩
      dsimp only
      go_wp2_with fail
      rw [HZ2.out]
      have HR7 := hid (((HR6.out.set 0 (.int .i64 n)).set 1 (.slice ea es.length ecap)).set 2 (.slice la ls.length lcap))
      refine bodyPost_ret (results_cell3 rfl rfl (load_rib HR7.out)) rfl ⟨_, rfl, ⟨_, _, rfl, ?_, ?_⟩, ?_⟩
      · have hk : w.heap.size < w2.heap.size := by have := HRB.out; have := HRB2.out; omega
        exact owns_edges (kept_row (kept_row (kept_row HV6.out (grown_set _ _ _ _) (hnk _ HV6.out hk)) (grown_set _ _ _ _) (hnk _ HV6.out hk)) (grown_set _ _ _ _) (hnk _ HV6.out hk)) (show es.length * 24 ≤ 140737488355328 by have := HLE.out; omega)
      · have hk : w.heap.size < w5.heap.size := HRL5.out
        exact (((HL6.out.kept (grown_set _ _ _ _) hk).kept (grown_set _ _ _ _) hk).kept (grown_set _ _ _ _) hk).read
      · exact ((HB6.out.setCell (Nat.le_refl _) _).setCell (Nat.le_refl _) _).setCell (Nat.le_refl _) _
    · skip
      have HZ2 : Hid (Z = ((⟨0, []⟩, []), s4.pl, s4.e)) := by have h := HZ.out; rw [if_pos he4] at h; exact h
      have he1 : (s4.e != 0) = true := by simpa using he4
      obtain ⟨off, cap, d1, d2, d3, d4, d5, d6, d7, d8, d9, d10, d11, d12⟩ := HT6.out.cells
      have HC1 := hid d7
      have HC2 := hid d8
      clear HZ he4 d1 d2 d3 d4 d5 d6 d7 d8 d9 d10 d11 d12
      go_upto_region 10 with fail
      have r0 := HR6.out.cell 0
      have r1 := HR6.out.cell 1
      have r2 := HR6.out.cell 2
      simp only [List.getElem?_toArray, List.getElem?_cons_zero, List.getElem?_cons_succ] at r0 r1 r2
      have hne : rb ≠ w.heap.size := by have := HRB.out; omega
      let S : World → Prop := fun W' => W'.cell? ⟨rb, 1, none⟩ = some (.int .i64 s4.e) ∧ W'.cell? ⟨rb, 2, none⟩ = some (.int .i64 s4.pl)
      (refine wp_region_text 13 [0,1,2,3,4,5,6,7,8,9,10,11,12] S (by kernel_rfl) (by kernel_rfl) (by intro _ _ d _ _ h; cases d <;> exact h) ?hS ?_; rotate_left; simp only [List.map_cons, List.map_nil, List.getD_cons_zero, List.getD_cons_succ, List.drop_succ_cons, List.drop_zero])
      case hS => exact ⟨HC1.out, HC2.out⟩
      (repeat ((refine' wpSeq_take rfl _ (by rfl) ?_ ?_; rotate_left; focus (intro w' hS; (try dsimp only at hS); obtain ⟨s1, s2⟩ := hS; go_simp; (first | done | with_reducible rfl)); (try simp only [Act.put, List.setIfInBounds_toArray, List.set_cons_zero, List.set_cons_succ])); (try simp only [Act.put, List.setIfInBounds_toArray, List.set_cons_zero, List.set_cons_succ])))
      refine wpSeq_call rfl (by rfl) (fun K hK => ?_)
      have r0' : (w6.drew).cell? ⟨w.heap.size, 0, none⟩ = some (.int .i64 0) := r0
      have r1' : (w6.drew).cell? ⟨w.heap.size, 1, none⟩ = some (.slice none 0 0) := r1
      have r2' : (w6.drew).cell? ⟨w.heap.size, 2, none⟩ = some (.slice none 0 0) := r2
      have f0 : (w6.drew).frozen? ⟨w.heap.size, 0, none⟩ = false := HR6.out.frozen 0
      have f1 : (w6.drew).frozen? ⟨w.heap.size, 1, none⟩ = false := HR6.out.frozen 1
      have f2 : (w6.drew).frozen? ⟨w.heap.size, 2, none⟩ = false := HR6.out.frozen 2
      have rl : w.heap.size < (w6.drew).heap.size := HR6.out.lt
      have g0 := HR6.out.frozen 0
      have g1 := HR6.out.frozen 1
      have g2 := HR6.out.frozen 2
      have hS3 : S ((((w6.setCell ⟨w.heap.size, 0, none⟩ (.int .i64 0)).setCell ⟨w.heap.size, 1, none⟩ (.slice none 0 0)).setCell ⟨w.heap.size, 2, none⟩ (.slice none 0 0)).drew) := by
        constructor
        · show World.cell? (World.setCell (World.setCell (World.setCell _ _ _) _ _) _ _) _ = _
          rw [World.cell?_setCell_far _ _ _ _ (fun e => hne e.symm), World.cell?_setCell_far _ _ _ _ (fun e => hne e.symm), World.cell?_setCell_far _ _ _ _ (fun e => hne e.symm)]; exact HC1.out
        · show World.cell? (World.setCell (World.setCell (World.setCell _ _ _) _ _) _ _) _ = _
          rw [World.cell?_setCell_far _ _ _ _ (fun e => hne e.symm), World.cell?_setCell_far _ _ _ _ (fun e => hne e.symm), World.cell?_setCell_far _ _ _ _ (fun e => hne e.symm)]; exact HC2.out
      go_simp
      refine hK _ _ hS3 ?_
      clear hK K
      (try simp only [Act.put, List.setIfInBounds_toArray, List.set_cons_zero, List.set_cons_succ])
      (repeat ((refine' wpSeq_take rfl _ (by rfl) ?_ ?_; rotate_left; focus (intro w' hS; (try dsimp only at hS); obtain ⟨s1, s2⟩ := hS; go_simp; (first | done | with_reducible rfl)); (try simp only [Act.put, List.setIfInBounds_toArray, List.set_cons_zero, List.set_cons_succ])); (try simp only [Act.put, List.setIfInBounds_toArray, List.set_cons_zero, List.set_cons_succ])))
      refine wpSeq_nil ?_
      have HR9 := hid (((HR6.out.set 0 (.int .i64 0)).set 1 (.slice none 0 0)).set 2 (.slice none 0 0))
      clear hS3 S r0 r1 r2 r0' r1' r2' f0 f1 f2 g0 g1 g2
      go_wp2_with fail
      rw [HZ2.out]
      refine bodyPost_ret (results_cell3 rfl rfl (load_rib (Blk.drew HR9.out))) rfl ⟨_, rfl, rib_zero _, ?_⟩
      exact ((((HB6.out.setCell (Nat.le_refl _) _).setCell (Nat.le_refl _) _).setCell (Nat.le_refl _) _).drew)
  · skip
    have HZ2 : Hid (Z = ((⟨0, []⟩, []), s2.pl, s2.e)) := by have h := HZ.out; rw [if_pos he] at h; exact h
    have he1 : (s2.e != 0) = true := by simpa using he
    obtain ⟨off, cap, d1, d2, d3, d4, d5, d6, d7, d8, d9, d10, d11, d12⟩ := HT4.out.cells
    have HC1 := hid d7
    have HC2 := hid d8
    clear HZ he d1 d2 d3 d4 d5 d6 d7 d8 d9 d10 d11 d12
    go_upto_region 4 with fail
    have r0 := HR4.out.cell 0
    have r1 := HR4.out.cell 1
    have r2 := HR4.out.cell 2
    simp only [List.getElem?_toArray, List.getElem?_cons_zero, List.getElem?_cons_succ] at r0 r1 r2
    have hne : rb ≠ w.heap.size := by have := HRB.out; omega
    let S : World → Prop := fun W' => W'.cell? ⟨rb, 1, none⟩ = some (.int .i64 s2.e) ∧ W'.cell? ⟨rb, 2, none⟩ = some (.int .i64 s2.pl)
    (refine wp_region_text 13 [0,1,2,3,4,5,6,7,8,9,10,11,12] S (by kernel_rfl) (by kernel_rfl) (by intro _ _ d _ _ h; cases d <;> exact h) ?hS ?_; rotate_left; simp only [List.map_cons, List.map_nil, List.getD_cons_zero, List.getD_cons_succ, List.drop_succ_cons, List.drop_zero])
    case hS => exact ⟨HC1.out, HC2.out⟩
    (repeat ((refine' wpSeq_take rfl _ (by rfl) ?_ ?_; rotate_left; focus (intro w' hS; (try dsimp only at hS); obtain ⟨s1, s2⟩ := hS; go_simp; (first | done | with_reducible rfl)); (try simp only [Act.put, List.setIfInBounds_toArray, List.set_cons_zero, List.set_cons_succ])); (try simp only [Act.put, List.setIfInBounds_toArray, List.set_cons_zero, List.set_cons_succ])))
    refine wpSeq_call rfl (by rfl) (fun K hK => ?_)
    have r0' : (W4.drew).cell? ⟨w.heap.size, 0, none⟩ = some (.int .i64 0) := r0
    have r1' : (W4.drew).cell? ⟨w.heap.size, 1, none⟩ = some (.slice none 0 0) := r1
    have r2' : (W4.drew).cell? ⟨w.heap.size, 2, none⟩ = some (.slice none 0 0) := r2
    have f0 : (W4.drew).frozen? ⟨w.heap.size, 0, none⟩ = false := HR4.out.frozen 0
    have f1 : (W4.drew).frozen? ⟨w.heap.size, 1, none⟩ = false := HR4.out.frozen 1
    have f2 : (W4.drew).frozen? ⟨w.heap.size, 2, none⟩ = false := HR4.out.frozen 2
    have rl : w.heap.size < (W4.drew).heap.size := HR4.out.lt
    have g0 := HR4.out.frozen 0
    have g1 := HR4.out.frozen 1
    have g2 := HR4.out.frozen 2
    have hS3 : S ((((W4.setCell ⟨w.heap.size, 0, none⟩ (.int .i64 0)).setCell ⟨w.heap.size, 1, none⟩ (.slice none 0 0)).setCell ⟨w.heap.size, 2, none⟩ (.slice none 0 0)).drew) := by
      constructor
      · show World.cell? (World.setCell (World.setCell (World.setCell _ _ _) _ _) _ _) _ = _
        rw [World.cell?_setCell_far _ _ _ _ (fun e => hne e.symm), World.cell?_setCell_far _ _ _ _ (fun e => hne e.symm), World.cell?_setCell_far _ _ _ _ (fun e => hne e.symm)]; exact HC1.out
      · show World.cell? (World.setCell (World.setCell (World.setCell _ _ _) _ _) _ _) _ = _
        rw [World.cell?_setCell_far _ _ _ _ (fun e => hne e.symm), World.cell?_setCell_far _ _ _ _ (fun e => hne e.symm), World.cell?_setCell_far _ _ _ _ (fun e => hne e.symm)]; exact HC2.out
    go_simp
    refine hK _ _ hS3 ?_
    clear hK K
    (try simp only [Act.put, List.setIfInBounds_toArray, List.set_cons_zero, List.set_cons_succ])
    (repeat ((refine' wpSeq_take rfl _ (by rfl) ?_ ?_; rotate_left; focus (intro w' hS; (try dsimp only at hS); obtain ⟨s1, s2⟩ := hS; go_simp; (first | done | with_reducible rfl)); (try simp only [Act.put, List.setIfInBounds_toArray, List.set_cons_zero, List.set_cons_succ])); (try simp only [Act.put, List.setIfInBounds_toArray, List.set_cons_zero, List.set_cons_succ])))
    refine wpSeq_nil ?_
    have HR9 := hid (((HR4.out.set 0 (.int .i64 0)).set 1 (.slice none 0 0)).set 2 (.slice none 0 0))
    clear hS3 S r0 r1 r2 r0' r1' r2' f0 f1 f2 g0 g1 g2
    go_wp2_with fail
    rw [HZ2.out]
    refine bodyPost_ret (results_cell3 rfl rfl (load_rib (Blk.drew HR9.out))) rfl ⟨_, rfl, rib_zero _, ?_⟩
    exact ((((HB4.out.setCell (Nat.le_refl _) _).setCell (Nat.le_refl _) _).setCell (Nat.le_refl _) _).drew)

end Go.Proofs.YtemmepgfngkgmaaGreatDoor

namespace Go.Proofs.YtemmepgfngkgmaaGreatDoor
open Go.RowKit
set_option linter.unusedVariables false

def renJ : Go.Shelf.Ren := ⟨fun | 156 => 61 | 165 => 112 | 166 => 57 | 169 => 59 | 240 => 109 | 241 => 135 | 276 => 133 | 277 => 163 | n => n, fun | 0 => 0 | 3 => 3 | 4 => 4 | 5 => 5 | 9 => 9 | 20 => 20 | 31 => 114 | 37 => 116 | 70 => 115 | 72 => 118 | 75 => 121 | 76 => 122 | 80 => 125 | 127 => 177 | 164 => 203 | n => n, fun | n => n⟩
theorem lay156 : Go.Proofs.Lays.n156 Tryz.prog renJ :=
  { mixed := by kernel_rfl,
    f156 := by kernel_rfl,
    f165 := by kernel_rfl,
    f166 := by kernel_rfl,
    f169 := by kernel_rfl,
    f240 := by kernel_rfl,
    f241 := by kernel_rfl,
    f276 := by kernel_rfl,
    f277 := by kernel_rfl,
    t0 := by kernel_rfl,
    a0 := fun _ => by kernel_rfl,
    z0 := fun _ => by kernel_rfl,
    v0 := fun _ => by kernel_rfl,
    t3 := by kernel_rfl,
    a3 := fun _ => by kernel_rfl,
    z3 := fun _ => by kernel_rfl,
    v3 := fun _ => by kernel_rfl,
    t4 := by kernel_rfl,
    a4 := fun _ => by kernel_rfl,
    z4 := fun _ => by kernel_rfl,
    v4 := fun _ => by kernel_rfl,
    t9 := by kernel_rfl,
    a9 := fun _ => by kernel_rfl,
    z9 := fun _ => by kernel_rfl,
    v9 := fun _ => by kernel_rfl,
    t20 := by kernel_rfl,
    a20 := fun _ => by kernel_rfl,
    z20 := fun _ => by kernel_rfl,
    v20 := fun _ => by kernel_rfl,
    t31 := by kernel_rfl,
    a31 := fun _ => by kernel_rfl,
    z31 := fun _ => by kernel_rfl,
    v31 := fun _ => by kernel_rfl,
    t37 := by kernel_rfl,
    a37 := fun _ => by kernel_rfl,
    z37 := fun _ => by kernel_rfl,
    v37 := fun _ => by kernel_rfl,
    t70 := by kernel_rfl,
    a70 := fun _ => by kernel_rfl,
    z70 := fun _ => by kernel_rfl,
    v70 := fun _ => by kernel_rfl,
    t72 := by kernel_rfl,
    a72 := fun _ => by kernel_rfl,
    z72 := fun _ => by kernel_rfl,
    v72 := fun _ => by kernel_rfl,
    t75 := by kernel_rfl,
    a75 := fun _ => by kernel_rfl,
    z75 := fun _ => by kernel_rfl,
    v75 := fun _ => by kernel_rfl,
    t76 := by kernel_rfl,
    a76 := fun _ => by kernel_rfl,
    z76 := fun _ => by kernel_rfl,
    v76 := fun _ => by kernel_rfl,
    t127 := by kernel_rfl,
    a127 := fun _ => by kernel_rfl,
    z127 := fun _ => by kernel_rfl,
    v127 := fun _ => by kernel_rfl,
    t164 := by kernel_rfl,
    a164 := fun _ => by kernel_rfl,
    z164 := fun _ => by kernel_rfl,
    v164 := fun _ => by kernel_rfl }

theorem layXJ : Go.Proofs.Builder.Extra Tryz.prog renJ :=
  { sizeBuilder := by kernel_rfl, liesBuilder := by kernel_rfl, t5 := by kernel_rfl, a5 := fun _ => by kernel_rfl, z5 := fun _ => by kernel_rfl, v5 := fun _ => by kernel_rfl, infoByte := by kernel_rfl, cellsByte := by kernel_rfl, sizeByte := by kernel_rfl, neB5 := by decide }

/-- Texts, joined. -/
def joinT (sep : List UInt8) : List (List UInt8) → List UInt8
  | [] => []
  | [x] => x
  | x :: y :: r => x ++ sep ++ joinT sep (y :: r)
theorem joinT_lib (sep : List UInt8) : ∀ l, Lib.join l sep = joinT sep l
  | [] => by rw [Lib.join_nil]; rfl
  | [x] => by rw [Lib.join_one]; rfl
  | x :: y :: r => by
    rw [joinT, ← joinT_lib sep (y :: r), Lib.join_cons, Lib.join_cons]
    simp [Lib.joinTail]
theorem data_str (l : List (List UInt8)) : (l.map str).map (fun b => b.data.toList) = l := by
  rw [List.map_map]
  conv => rhs; rw [← List.map_id l]
  exact List.map_congr_left (fun x _ => rfl)
theorem c_Join (a : Option Addr) (cap : Nat) (l : List (List UInt8)) (sep : List UInt8) (w : World) (hcap : l.length ≤ cap) (hn : l.length ≤ 1000000) (hl : (joinT sep l).length ≤ 1000000000)
    (hc : l = [] ∨ ∃ b off, a = some ⟨b, off, none⟩ ∧ b < w.heap.size ∧ ∀ j, j < l.length → w.cell? ⟨b, off + j, none⟩ = some (.string (str (l[j]?.getD [])))) :
    Calls Tryz.prog 61 #[.slice a l.length cap, .string (str sep)] w fun e w' => e = .returned (.string (str (joinT sep l))) ∧ Below w.heap.size w w' := by
  rcases hc with rfl | ⟨b, off, rfl, hb, hc⟩
  · refine (Any.strings_Join_none lay156 layXJ a cap (str sep) w).mono ?_
    rintro e w' ⟨rfl, rfl⟩
    exact ⟨rfl, Below.refl _ _⟩
  · have hd := data_str l
    have hlm : (l.map str).length = l.length := List.length_map _
    have h := Any.strings_Join (P := Tryz.prog) lay156 layXJ b off cap (l.map str) (str sep) w (fun j x hx => by
      rw [List.getElem?_map] at hx
      cases hj : l[j]? with
      | none => rw [hj] at hx; cases hx
      | some y =>
        rw [hj] at hx
        simp at hx
        subst hx
        have hjl : j < l.length := (List.getElem?_eq_some_iff.1 hj).1
        rw [hc j hjl, hj]; rfl) hb (by omega) (by omega) (by rw [hd, str_data, joinT_lib]; omega)
    rw [hlm] at h
    refine h.mono ?_
    rintro e w' ⟨rfl, hB⟩
    refine ⟨?_, hB⟩
    rw [hd, str_data, joinT_lib]; rfl

end Go.Proofs.YtemmepgfngkgmaaGreatDoor
