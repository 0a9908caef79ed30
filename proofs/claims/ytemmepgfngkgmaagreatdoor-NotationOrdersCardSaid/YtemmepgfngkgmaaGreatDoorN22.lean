/-
  Contract of the notation: exact.
-/
import Derived.Test.YtemmepgfngkgmaaGreatDoorN7
import Derived.Test.YtemmepgfngkgmaaGreatDoorN16
namespace Go.Proofs.YtemmepgfngkgmaaGreatDoor
open Go.RowKit
set_option linter.unusedVariables false
set_option linter.unusedSimpArgs false

/-! ## Lines with their places -/
def lnE (x : Ln) : E := ⟨x.a, x.b, x.m⟩
def lnCel (x : Ln) : List Value := [.int .i64 x.a, .int .i64 x.b, .int .i64 x.m, .int .i64 x.pl]
def lnsC (xs : List Ln) : List Value := xs.flatMap lnCel
theorem lnsC_append (a b : List Ln) : lnsC (a ++ b) = lnsC a ++ lnsC b := by simp [lnsC]
theorem lnsC_len (es : List Ln) : (lnsC es).length = es.length * 4 := by
  induction es with
  | nil => rfl
  | cons x es ih => simp only [lnsC, List.flatMap_cons, List.length_append, List.length_cons] at *; rw [ih]; simp [lnCel]; omega
theorem lnsC_get (es : List Ln) : ∀ k, k < es.length → ∀ j, j < 4 → (lnsC es)[k * 4 + j]? = (lnCel (es[k]?.getD default))[j]? := by
  induction es with
  | nil => intro k hk; simp at hk
  | cons x es ih =>
    intro k hk j hj
    have e : lnsC (x :: es) = lnCel x ++ lnsC es := by simp [lnsC]
    rw [e]
    cases k with
    | zero => rw [List.getElem?_append_left (by simp [lnCel]; omega)]; simp
    | succ k =>
      rw [List.getElem?_append_right (by simp [lnCel]; omega)]
      have := ih k (by simpa using hk) j hj
      have e2 : (k + 1) * 4 + j - (lnCel x).length = k * 4 + j := by simp [lnCel]; omega
      rw [e2, this]
      simp
theorem owns_lns {w : World} {base : Nat} {e : TypeId} {v : Value} {es : List Ln} (h : w.ownsRow base e 4 v es.length (lnsC es)) (h0 : 0 < es.length) :
    ∃ g cap, v = .slice (some ⟨g, 0, none⟩) es.length cap ∧ base ≤ g ∧ g < w.heap.size ∧ es.length ≤ cap ∧ cap ≤ 9223372036854775807 ∧ (∀ k, w.frozen? ⟨g, k, none⟩ = false) ∧ ∀ k, k < es.length → w.cell? ⟨g, k * 4, none⟩ = some (.int .i64 (es[k]?.getD default).a) ∧
      w.cell? ⟨g, k * 4 + 1, none⟩ = some (.int .i64 (es[k]?.getD default).b) ∧ w.cell? ⟨g, k * 4 + 2, none⟩ = some (.int .i64 (es[k]?.getD default).m) ∧ w.cell? ⟨g, k * 4 + 3, none⟩ = some (.int .i64 (es[k]?.getD default).pl) := by
  have h' := h
  rcases h.2 with ⟨_, h2⟩ | ⟨g, cap, cur, rfl, h2, h3, h4, h5, h6, h7⟩
  · omega
  · have hl := lnsC_len es
    have hc : ∀ k, k < es.length * 4 → w.cell? ⟨g, k, none⟩ = (lnsC es)[k]? := fun k hk => by
      rw [← h7, List.getElem?_take, if_pos hk]
      simp [World.cell?, h3]
    refine ⟨g, cap, rfl, h2, (Array.getElem?_eq_some_iff.1 h3).1, h4, by unfold maxLen at h5; omega, fun k => by simp [World.frozen?, h3], fun k hk => ⟨?_, ?_, ?_, ?_⟩⟩
    · rw [hc _ (by omega)]; exact lnsC_get es k hk 0 (by omega)
    · rw [hc _ (by omega)]; exact lnsC_get es k hk 1 (by omega)
    · rw [hc _ (by omega)]; exact lnsC_get es k hk 2 (by omega)
    · rw [hc _ (by omega)]; exact lnsC_get es k hk 3 (by omega)
theorem lnE_get (es : List Ln) (k : Nat) : ((es.map lnE)[k]?.getD default) = lnE (es[k]?.getD default) := by
  rw [List.getElem?_map]
  cases es[k]? <;> rfl
theorem owns_lnsR {w : World} {base : Nat} {e : TypeId} {v : Value} {es : List Ln} (h : w.ownsRow base e 4 v es.length (lnsC es)) : LinesR w v (es.map lnE) := by
  by_cases h0 : 0 < es.length
  · obtain ⟨g, cap, rfl, _, hl, h1, h2, _, hc⟩ := owns_lns h h0
    refine ⟨_, cap, by rw [List.length_map], by rw [List.length_map]; exact h1, h2, .inr ⟨g, 0, rfl, hl, fun k hk => ?_⟩⟩
    obtain ⟨c0, c1, c2, c3⟩ := hc k (by rwa [List.length_map] at hk)
    rw [lnE_get]
    exact ⟨by rw [Nat.zero_add]; exact c0, by rw [Nat.zero_add]; exact c1, by rw [Nat.zero_add]; exact c2, _, by rw [Nat.zero_add]; exact c3⟩
  · obtain rfl : es = [] := List.eq_nil_of_length_eq_zero (by omega)
    obtain ⟨a, cap, rfl, h1, h2, _⟩ := owns_at h
    exact ⟨_, _, rfl, h1, h2, .inl rfl⟩

/-! ## exact, plain -/
/-- A line that does not come behind the last one. -/
def badL (es : List E) (x : Ln) : Prop := x.b < x.a ∨ 0 < es.length ∧ (x.a < (es[es.length - 1]?.getD default).a ∨ x.a = (es[es.length - 1]?.getD default).a ∧ x.b ≤ (es[es.length - 1]?.getD default).b)
instance badL_dec (es : List E) (x : Ln) : Decidable (badL es x) := by unfold badL; infer_instance
theorem exactG_end {n : Int} {es : List E} {s : Rs} (h : s.e ≠ 0 ∨ s.is [59] = true) (f : Nat) : exactG n f es s = (es, s) := by
  cases f with
  | zero => rfl
  | succ f => unfold exactG; rw [if_pos h]
theorem exactG_step {n : Int} {es : List E} {s : Rs} (h : ¬ (s.e ≠ 0 ∨ s.is [59] = true)) (f : Nat) (x : Ln) (s2 : Rs) (hx : s.line 45 n = (x, s2)) :
    exactG n (f + 1) es s = if s2.e ≠ 0 then (es ++ [lnE x], s2) else if badL es x then (es ++ [lnE x], s2.fail 9 x.pl) else exactG n f (es ++ [lnE x]) s2 := by
  conv => lhs; unfold exactG
  rw [if_neg h]
  dsimp only
  rw [hx]
  rfl
theorem exactG_fuel (n : Int) : ∀ (f g : Nat) (es : List E) (s : Rs), TsOk s.ts → s.ts.length ≤ f → s.ts.length ≤ g → exactG n f es s = exactG n g es s
  | 0, _, es, s, h, h1, _ => by have := h.1; omega
  | _, 0, es, s, h, _, h2 => by have := h.1; omega
  | f + 1, g + 1, es, s, h, h1, h2 => by
    by_cases he : s.e ≠ 0 ∨ s.is [59] = true
    · rw [exactG_end he, exactG_end he]
    · have hl := line_ts h 45 n
      rw [exactG_step he f (s.line 45 n).1 (s.line 45 n).2 rfl, exactG_step he g (s.line 45 n).1 (s.line 45 n).2 rfl]
      generalize s.line 45 n = p at *
      split
      · rfl
      · split
        · rfl
        · have := hl.2.2 (by omega)
          exact exactG_fuel n f g _ _ hl.1 (by omega) (by omega)

/-- While edges are read. -/
structure ExI (w0 w : World) (rb tb : Nat) (T : TypeId) (rest : List Value) (v : Value) (xs : List Ln) (s : Rs) : Prop where
  own : w.ownsRow w0.heap.size 149 4 v xs.length (lnsC xs)
  tk : Tk w rb tb T rest s
  g : w0.grownBy w (some rb)
  env : EnvB w rb
  env0 : Env w0
  hrb : rb < w0.heap.size
  htb : tb < w0.heap.size
section
variable {w0 w w' : World} {rb tb : Nat} {T : TypeId} {rest : List Value} {v v' : Value} {es es' : List Ln} {s s' : Rs}
theorem ExI.step (h : ExI w0 w rb tb T rest v es s) (ht : Tk w' rb tb T rest s') (hg : w.grownBy w' (some rb)) : ExI w0 w' rb tb T rest v es s' :=
  ⟨h.own.kept hg (by
    cases hv : v.ownBlock with
    | none => exact .inl rfl
    | some k => exact .inr (by have := (h.own.lt k hv).1; have := h.hrb; simp; omega)), ht, grown_trans h.g hg, h.env.grown hg, h.env0, h.hrb, h.htb⟩
theorem ExI.below (h : ExI w0 w rb tb T rest v es s) (hB : Below w.heap.size w w') : ExI w0 w' rb tb T rest v es s := h.step (h.tk.below hB) (grown_of hB _)
theorem ExI.row (h : ExI w0 w rb tb T rest v es s) (ho : w'.ownsRow w0.heap.size 149 4 v' es'.length (lnsC es')) (hg : w.grownBy w' v.ownBlock) : ExI w0 w' rb tb T rest v' es' s := by
  have hb : ∀ k, v.ownBlock = some k → w0.heap.size ≤ k := fun k hk => (h.own.lt k hk).1
  have hrb := h.hrb
  have htb := h.htb
  have he := h.env0.lt
  refine ⟨ho, h.tk.grownR hg (fun e => by have := hb _ e; omega) (fun e => by have := hb _ e; omega), ⟨h.g.os ▸ hg.os, h.g.tape ▸ hg.tape, h.g.output ▸ hg.output, Nat.le_trans h.g.size hg.size, fun k hk hne => ?_⟩, ?_, h.env0, hrb, htb⟩
  · rw [hg.block k (Nat.lt_of_lt_of_le hk h.g.size) (fun e => by have := hb _ e.symm; omega)]
    exact h.g.block k hk hne
  · refine ⟨?_, h.env.2⟩
    cases hv : v.ownBlock with
    | none =>
      rw [hv] at hg
      exact h.env.1.below ⟨hg.os, hg.tape, hg.output, hg.size, fun k hk => hg.block k hk (by simp)⟩
    | some k =>
      rw [hv] at hg
      have := hb k hv
      exact h.env.1.grown hg (fun _ _ => by omega) (fun g' hg' => by rw [pow_g] at hg'; have := Option.some.inj hg'; omega)
end
def RetEx (w : World) (rb tb : Nat) (T : TypeId) (rest : List Value) (n : Int) (z : List E × Rs) (e : Ending) (w' : World) : Prop :=
  ∃ ev, e = .returned (.agg #[.int .i64 n, ev]) ∧ w'.ownsRow w.heap.size 82 3 ev z.1.length (z.1.flatMap E.cells) ∧ Tk w' rb tb T rest (z.2.need [59]) ∧ w.grownBy w' (some rb)

set_option maxRecDepth 100000 in
set_option maxHeartbeats 4000000 in
theorem n_exact (n : Int) (s : Rs) (hn : s.e = 0 → 1 ≤ n ∧ n ≤ 12) (rb tb : Nat) (w : World) (hE : EnvB w rb) (hT : Tk w rb tb 104 (rdRest wRibbon 45 111 n) s) :
    Calls Tryz.prog 64 #[.pointer (some ⟨rb, 0, none⟩)] w (RetEx w rb tb 104 (rdRest wRibbon 45 111 n) n (exactG n s.ts.length [] s)) := by
  obtain ⟨i0, hi0, hz0, hz1, hz2⟩ := info_parts info_line
  have hln := hid (fun (s' : Rs) (w' : World) (hn : 1 ≤ n ∧ n ≤ 12) (hE' : EnvB w' rb) (hT' : Tk w' rb tb 104 (rdRest wRibbon 45 111 n) s') => n_line false 45 wRibbon 111 ends_kept fn_kept n hn.1 hn.2 s' rb tb w' hE' hT')
  obtain ⟨Z, hZ⟩ : ∃ Z, Z = exactG n s.ts.length [] s := ⟨_, rfl⟩
  rw [← hZ]
  have HZ := hid hZ.symm
  have HN := hid hn
  have hok := hid hT.1
  have HT := hid hT
  have HE := hid hE
  have hrb := hT.lt
  have htb : tb < w.heap.size := by obtain ⟨_, _, htb, _⟩ := hT.cells; exact htb
  clear hZ hn hT hE
  go_enter Tryz.func64, Tryz.ntmps64
  go_wp2_with fail
  obtain ⟨W0, hW0⟩ : ∃ W : World, W = w.alloc (.cells #[.int .i64 0, .slice none 0 0] 24) := ⟨_, rfl⟩
  rw [← hW0]
  have HR := hid (show Blk W0 w.heap.size #[.int .i64 0, .slice none 0 0] 24 by rw [hW0]; exact Blk.new _ _ _)
  have HB0 := hid (show Below w.heap.size w W0 by rw [hW0]; exact (Below.refl _ _).alloc (Nat.le_refl _) _)
  clear hW0
  have hW0s := HR.out.lt
  have h0 : Hid (ExI W0 W0 rb tb 104 (rdRest wRibbon 45 111 n) (.slice none 0 0) [] s) :=
    ⟨World.ownsRow_nil _ _ _ _, HT.out.below HB0.out, World.grownBy.refl _ _, HE.out.below HB0.out, (HE.out.below HB0.out).1, by omega, by omega⟩
  have HRB := hid hrb
  have HTB := hid htb
  have HW0s := hid hW0s
  clear HT HE hrb htb hW0s
  go_loopg [3] (s.ts.length + 1) (fun k v wr => ∃ xs s', Hid (ExI W0 wr rb tb 104 (rdRest wRibbon 45 111 n) v xs s') ∧ xs.length + s'.ts.length ≤ 5001 ∧ Hid (s'.e = 0 → s'.ts.length < k ∧ xs.length + s'.ts.length ≤ 5000) ∧ Hid (s'.e = 0 → 1 ≤ n ∧ n ≤ 12) ∧ Hid (exactG n s'.ts.length (xs.map lnE) s' = Z))
  case atStart => exact ⟨[], s, h0, by have := hok.out.2.1; simp; omega, fun _ => ⟨by omega, by have := hok.out.2.1; simp; omega⟩, HN, HZ⟩
  case round =>
    clear h0 hok HZ HN
    obtain ⟨xs, s', HI, hsz, HM, HN, HZ⟩ := hrel
    obtain ⟨W1, rfl⟩ : ∃ W : World, W = wr := ⟨_, rfl⟩
    have HSZ := hid hsz
    clear hsz
    have c1 := HI.out.tk.rest.1
    have hrl := HI.out.tk.lt
    by_cases he : s'.e = 0
    · rw [he] at c1
      have HE0 := hid he
      clear he
      go_wp2_with fail
      refine (t_is W1 rb tb _ _ s' HI.out.tk [59]).mono ?_
      rintro e w1 ⟨rfl, hB1⟩
      have HI1 := hid (HI.out.below hB1)
      clear hB1 HI c1 hrl
      cases his : s'.is [59] with
      | true =>
        have HZ2 : Hid ((xs.map lnE, s') = Z) := by rw [← HZ.out, exactG_end (.inr his)]; exact rfl
        have HI := HI1
        clear his HZ HI1
        dsimp only
        go_wp2_with fail
        refine (t_need _ rb tb _ _ s' HI.out.tk [59]).mono ?_
        rintro e w3 ⟨rfl, ht3, hg3⟩
        have HI3 := hid (HI.out.step ht3 hg3)
        clear HI ht3 hg3
        have c6 := HI3.out.tk.rest.2.2.2.2
        have hrl := HI3.out.tk.lt
        have HR3 := hid (HR.out.grown HI3.out.g (fun e => by have := HRB.out; simp at e; omega))
        have HB3 : Hid (w.grownBy w3 (some rb)) := grown_trans (grown_of HB0.out _) HI3.out.g
        dsimp only
        go_wp2_with fail
        refine (n_of n (xs.map lnE) _ w3 (owns_lnsR HI3.out.own) (by rw [List.length_map]; have := HSZ.out; omega)).mono ?_
        rintro e w4 ⟨ev, rfl, hev, hB4⟩
        have HR4 := hid (HR3.out.below hB4)
        have HI4 := hid (HI3.out.below hB4)
        have HEV := hid hev
        have HB4 := hid (grown_trans HB3.out (grown_of hB4 _))
        have hw3 : w.heap.size < w3.heap.size := HR3.out.lt
        have HW3 := hid hw3
        clear hB4 hev c6 hrl hw3
        obtain ⟨ea, ecap, ee, _⟩ := owns_at HEV.out
        rw [List.length_map] at ee
        subst ee
        have r0 := HR4.out.cell 0
        have r1 := HR4.out.cell 1
        simp only [List.getElem?_toArray, List.getElem?_cons_zero, List.getElem?_cons_succ] at r0 r1
        have f0 := HR4.out.frozen 0
        have f1 := HR4.out.frozen 1
        have rl := HR4.out.lt
        dsimp only
        go_wp2_with fail
        have HR5 := hid ((HR4.out.set 0 (.int .i64 n)).set 1 (.slice ea xs.length ecap))
        have hne : rb ≠ w.heap.size := by have := HRB.out; omega
        have hnt : tb ≠ w.heap.size := by have := HTB.out; omega
        refine bodyPost_ret (results_cell1' rfl rfl (load_gr rfl HR5.out)) rfl ⟨_, rfl, ?_, ?_, ?_⟩
        · have hq : (Value.slice ea xs.length ecap).ownBlock ≠ some w.heap.size := fun e => by have := (HEV.out.lt _ e).1; have := HW3.out; omega
          rw [← HZ2.out]
          exact owns_base ((HR4.out.set 0 (.int .i64 n)).owns (HR4.out.owns HEV.out hq 0 _) hq 1 _) (by have := HW3.out; omega)
        · rw [← HZ2.out]
          exact (HI4.out.tk.setO hne hnt 0 (.int .i64 n)).setO hne hnt 1 (.slice ea xs.length ecap)
        · exact grown_setN _ _ _ _ (Nat.le_refl _) _ (grown_setN _ _ _ _ (Nat.le_refl _) _ HB4.out)
      | false =>
        have hstop : ¬ (s'.e ≠ 0 ∨ s'.is [59] = true) := by rw [HE0.out, his]; simp
        have HLT := hid (line_ts HI1.out.tk.1 45 n)
        have hlz : s'.ts.length = (s'.ts.length - 1) + 1 := by have := HI1.out.tk.1.1; omega
        have hz := HZ.out
        rw [hlz] at hz
        have HST := hid hstop
        have HZ := hid hz
        clear hz hstop hlz his
        dsimp only
        go_wp2_with fail
        refine (hln.out s' w1 (HN.out HE0.out) HI1.out.env HI1.out.tk).mono ?_
        rintro e w2 ⟨rfl, ht2, hg2⟩
        have HI2 := hid (HI1.out.step ht2 hg2)
        clear ht2 hg2 HI1
        have hz := HZ.out
        rw [exactG_step HST.out _ (s'.line 45 n).1 (s'.line 45 n).2 rfl] at hz
        have HZ := hid hz
        have HM := hid (HM.out HE0.out)
        clear hz HST
        generalize hp : s'.line 45 n = p at *
        obtain ⟨x, s2⟩ := p
        clear hp
        have HI2 : Hid (ExI W0 w2 rb tb 104 (rdRest wRibbon 45 111 n) u3 xs s2) := HI2
        have HLT : Hid (TsOk s2.ts ∧ s2.ts.length ≤ s'.ts.length ∧ (s2.e = 0 → s2.ts.length < s'.ts.length ∧ 0 ≤ x.a ∧ x.a ≤ n - 1 ∧ 0 ≤ x.b ∧ x.b ≤ n - 1 ∧ 1 ≤ x.m ∧ x.m ≤ 50)) := HLT
        have HZ : Hid ((if s2.e ≠ 0 then (xs.map lnE ++ [lnE x], s2) else if badL (xs.map lnE) x then (xs.map lnE ++ [lnE x], s2.fail 9 x.pl) else exactG n (s'.ts.length - 1) (xs.map lnE ++ [lnE x]) s2) = Z) := HZ
        unfold lnV lo hi
        simp only [Bool.false_eq_true, if_false]
        have HXB := hid (Blk.new w2 #[.int .i64 x.a, .int .i64 x.b, .int .i64 x.m, .int .i64 x.pl] 149)
        have HI3 := hid (HI2.out.below ((Below.refl _ _).alloc (Nat.le_refl _) (.cells #[.int .i64 x.a, .int .i64 x.b, .int .i64 x.m, .int .i64 x.pl] 149)))
        have HUX : Hid (∀ k, u3.ownBlock = some k → k < w2.heap.size) := fun k hk => (HI2.out.own.lt k hk).2
        have HRX : Hid (rb < w2.heap.size) := HI2.out.tk.lt
        have HWX : Hid (W0.heap.size ≤ w2.heap.size) := HI2.out.g.size
        clear HI2
        obtain ⟨cp, hcp⟩ : ∃ cp, Hid (∃ a, u3 = .slice a xs.length cp) := by obtain ⟨a, cap, e, _⟩ := owns_at HI3.out.own; exact ⟨cap, a, e⟩
        obtain ⟨av, rfl⟩ := hcp.out
        go_upto_region 4 with fail
        generalize hX : w2.heap.size = X at *
        generalize w2.alloc (.cells #[.int .i64 x.a, .int .i64 x.b, .int .i64 x.m, .int .i64 x.pl] 149) = W3 at *
        clear hX hcp
        have hXl := HXB.out.lt
        have x0 := HXB.out.cell 0
        have x1 := HXB.out.cell 1
        have x2 := HXB.out.cell 2
        have x3 := HXB.out.cell 3
        simp only [List.getElem?_toArray, List.getElem?_cons_zero, List.getElem?_cons_succ] at x0 x1 x2 x3
        have hcl : Hid (∀ W', Below W3.heap.size W3 W' → W'.cell? ⟨X, 0, none⟩ = some (.int .i64 x.a) ∧ W'.cell? ⟨X, 1, none⟩ = some (.int .i64 x.b)) := fun W' hB => ⟨(hB.cell hXl).trans x0, (hB.cell hXl).trans x1⟩
        clear x0 x1 x2 x3
        go_upto_region 5 with fail
        by_cases hb1 : x.b < x.a
        · have HBAD : Hid (badL (xs.map lnE) x) := .inl hb1
          let S : World → Prop := fun W' => Hid (Below W3.heap.size W3 W')
          (refine wp_region_text 22 [0,1,2,3,4,5,6,7,8,9,10,11,12,13,14,15,16,17,18,19,20,21] S (by kernel_rfl) (by kernel_rfl) (by intro _ _ d _ _ h; cases d <;> exact h) ?hS ?_; rotate_left; simp only [List.map_cons, List.map_nil, List.getD_cons_zero, List.getD_cons_succ, List.drop_succ_cons, List.drop_zero])
          case hS => exact Below.drew (Below.refl _ _)
          (repeat ((refine' wpSeq_take rfl _ (by rfl) ?_ ?_; rotate_left; focus (intro w' hS; (try dsimp only at hS); obtain ⟨s0, s1⟩ := hcl.out _ hS.out; go_simp; (first | done | with_reducible rfl)); (try simp only [Act.put, List.setIfInBounds_toArray, List.set_cons_zero, List.set_cons_succ])); (try simp only [Act.put, List.setIfInBounds_toArray, List.set_cons_zero, List.set_cons_succ])))
          (repeat (refine wpSeq_skip (by rfl) ?_; (try simp only [Act.put, List.setIfInBounds_toArray, List.set_cons_zero, List.set_cons_succ])))
          refine wpSeq_nil ?_
          clear S hb1
          have HI5 := hid (HI3.out.below (Below.drew (Below.refl _ _)))
          have HX5 := hid (Blk.drew HXB.out)
          clear HI3 HXB
          generalize W3.drew = W5 at *
          go_upto_region 6 with fail
          have x3 : W5.cell? ⟨X, 3, none⟩ = some (.int .i64 x.pl) := (HX5.out.cell 3).trans rfl
          have hXl5 := HX5.out.lt
          have hrl := HI5.out.tk.lt
          let S : World → Prop := fun W' => W'.cell? ⟨X, 3, none⟩ = some (.int .i64 x.pl)
          (refine wp_region_text 5 [0,1,2,3,4] S (by kernel_rfl) (by kernel_rfl) (by intro _ _ d _ _ h; cases d <;> exact h) ?hS ?_; rotate_left; simp only [List.map_cons, List.map_nil, List.getD_cons_zero, List.getD_cons_succ, List.drop_succ_cons, List.drop_zero])
          case hS => exact ((HX5.out.below (Below.drew (Below.refl _ _))).cell 3).trans rfl
          (repeat ((refine' wpSeq_take rfl _ (by rfl) ?_ ?_; rotate_left; focus (intro w' hS; (try dsimp only at hS); have s1 : w'.cell? ⟨X, 3, none⟩ = some (.int .i64 x.pl) := hS; go_simp; (first | done | with_reducible rfl)); (try simp only [Act.put, List.setIfInBounds_toArray, List.set_cons_zero, List.set_cons_succ])); (try simp only [Act.put, List.setIfInBounds_toArray, List.set_cons_zero, List.set_cons_succ])))
          refine wpSeq_nil ?_
          clear S
          have HI6 := hid (HI5.out.below (Below.drew (Below.refl _ _)))
          have HX6 := hid (Blk.drew HX5.out)
          clear HI5 HX5 x3 hXl5
          go_wp2_with fail
          refine (t_fail _ rb tb _ _ s2 HI6.out.tk 9 x.pl).mono ?_
          rintro e w8 ⟨rfl, ht8, hg8⟩
          have HI7 := hid (HI6.out.step ht8 hg8)
          have HX7 := hid (HX6.out.grown hg8 (fun e => by have := HRX.out; simp at e; omega))
          have HFT := hid (fail_ts s2 9 x.pl)
          have HFE := hid (fun h => fail_e (s := s2) (k := 9) (p := x.pl) (by decide) h)
          have HZ7 : Hid ((xs.map lnE ++ [lnE x], s2.fail 9 x.pl) = Z ∨ s2.e ≠ 0 ∧ (xs.map lnE ++ [lnE x], s2) = Z) := by
            have h := HZ.out
            by_cases he : s2.e ≠ 0
            · rw [if_pos he] at h; exact .inr ⟨he, h⟩
            · rw [if_neg he, if_pos HBAD.out] at h; exact .inl h
          have HF0 := hid (fun (h : s2.e ≠ 0) => (show s2.fail 9 x.pl = s2 by unfold Rs.fail; rw [if_neg h]))
          have HZ8 : Hid ((xs.map lnE ++ [lnE x], s2.fail 9 x.pl) = Z) := by
            rcases HZ7.out with h | ⟨h1, h2⟩
            · exact h
            · show _ = _; rw [HF0.out h1]; exact h2
          have HT8 : Hid (TsOk (s2.fail 9 x.pl).ts ∧ (s2.fail 9 x.pl).ts.length ≤ s'.ts.length ∧ ((s2.fail 9 x.pl).e = 0 → False)) := ⟨by rw [HFT.out]; exact HLT.out.1, by rw [HFT.out]; exact HLT.out.2.1, HFE.out⟩
          clear ht8 hg8 HI6 HX6 HFT HFE HF0 HZ7 HZ
          generalize s2.fail 9 x.pl = s3 at *
          dsimp only
          go_upto_region 7 with fail
          have x0 := HX7.out.cell 0
          have x1 := HX7.out.cell 1
          have x2 := HX7.out.cell 2
          have x3 := HX7.out.cell 3
          simp only [List.getElem?_toArray, List.getElem?_cons_zero, List.getElem?_cons_succ] at x0 x1 x2 x3
          have hXl7 := HX7.out.lt
          have hbs := HI7.out.g.size
          have hlxs : xs.length ≤ 5001 := by have := HSZ.out; omega
          go_wp2_with (at_builtin; go_loud (refine wpList_append_own _ rfl _ _ 92 rfl W0.heap.size 149 i0 (.agg #[.int .i64 0, .int .i64 0, .int .i64 0, .int .i64 0]) 4 32 und_lines hi0 hz0 hz1 hz2 rfl (by decide) _ xs.length _ rfl (HI7.out.own.alloc _) ⟨w8.heap.size, 0, none⟩ 1 1 [.int .i64 x.a, .int .i64 x.b, .int .i64 x.m, .int .i64 x.pl] rfl rfl (fun j u h => four_news _ x.a x.b x.m x.pl _ j u h) (by simp [Value.oneCell']) (by unfold maxLen; omega) (by omega) (by simp; omega) ?_; intro v' w9 hown9 hgr9 _; have HO9 := hid (show w9.ownsRow W0.heap.size 149 4 v' (xs ++ [x]).length (lnsC (xs ++ [x])) by rw [lnsC_append, List.length_append]; exact hown9); have HG9 := hid ((Below.toGrown ((Below.refl _ _).alloc (Nat.le_refl _) (.cells #[.int .i64 x.a, .int .i64 x.b, .int .i64 x.m, .int .i64 x.pl] 149)) _).trans hgr9); clear hown9 hgr9))
          go_roundg (gk - 1)
          case measure => have := HM.out.1; omega
          case rel =>
            refine ⟨xs ++ [x], s3, ExI.row HI7.out HO9.out HG9.out, by rw [List.length_append]; have := HM.out; have := HT8.out.2.1; simp only [List.length_cons, List.length_nil]; omega, fun h => (HT8.out.2.2 h).elim, fun h => (HT8.out.2.2 h).elim, ?_⟩
            show _ = _
            rw [List.map_append, exactG_end (.inl (fun h => HT8.out.2.2 h))]
            exact HZ8.out
        · by_cases hem : xs.length = 0
          · have HOK : Hid (¬ badL (xs.map lnE) x) := by
              rintro (h | ⟨h, _⟩)
              · exact hb1 h
              · rw [List.length_map] at h; omega
            have hLp : ¬ (0 : Int) < (xs.length : Int) := by omega
            let S : World → Prop := fun W' => Hid (Below W3.heap.size W3 W')
            (refine wp_region_text 22 [0,1,2,3,4,5,6,7,8,9,10,11,12,13,14,15,16,17,18,19,20,21] S (by kernel_rfl) (by kernel_rfl) (by intro _ _ d _ _ h; cases d <;> exact h) ?hS ?_; rotate_left; simp only [List.map_cons, List.map_nil, List.getD_cons_zero, List.getD_cons_succ, List.drop_succ_cons, List.drop_zero])
            case hS => exact Below.drew (Below.refl _ _)
            (repeat ((refine' wpSeq_take rfl _ (by rfl) ?_ ?_; rotate_left; focus (intro w' hS; (try dsimp only at hS); obtain ⟨s0, s1⟩ := hcl.out _ hS.out; go_simp; (first | done | with_reducible rfl)); (try simp only [Act.put, List.setIfInBounds_toArray, List.set_cons_zero, List.set_cons_succ])); (try simp only [Act.put, List.setIfInBounds_toArray, List.set_cons_zero, List.set_cons_succ])))
            (repeat (refine wpSeq_skip (by rfl) ?_; (try simp only [Act.put, List.setIfInBounds_toArray, List.set_cons_zero, List.set_cons_succ])))
            (repeat ((refine' wpSeq_take rfl _ (by rfl) ?_ ?_; rotate_left; focus (intro w' hS; (try dsimp only at hS); obtain ⟨s0, s1⟩ := hcl.out _ hS.out; go_simp; (first | done | with_reducible rfl)); (try simp only [Act.put, List.setIfInBounds_toArray, List.set_cons_zero, List.set_cons_succ])); (try simp only [Act.put, List.setIfInBounds_toArray, List.set_cons_zero, List.set_cons_succ])))
            refine wpSeq_nil ?_
            clear S hb1 hem hLp
            have HI5 := hid (HI3.out.below (Below.drew (Below.refl _ _)))
            have HX5 := hid (Blk.drew HXB.out)
            clear HI3 HXB
            generalize W3.drew = W5 at *
            have HI7 := HI5
            have HX7 := HX5
            have HZ8 : Hid ((if s2.e ≠ 0 then (xs.map lnE ++ [lnE x], s2) else exactG n (s'.ts.length - 1) (xs.map lnE ++ [lnE x]) s2) = Z) := by
              have h := HZ.out
              rw [if_neg HOK.out] at h
              exact h
            clear HI5 HX5 HZ
            have hrl := HI7.out.tk.lt
            go_upto_region 7 with fail
            have x0 := HX7.out.cell 0
            have x1 := HX7.out.cell 1
            have x2 := HX7.out.cell 2
            have x3 := HX7.out.cell 3
            simp only [List.getElem?_toArray, List.getElem?_cons_zero, List.getElem?_cons_succ] at x0 x1 x2 x3
            have hXl7 := HX7.out.lt
            have hbs := HI7.out.g.size
            have hlxs : xs.length ≤ 5001 := by have := HSZ.out; omega
            go_wp2_with (at_builtin; go_loud (refine wpList_append_own _ rfl _ _ 92 rfl W0.heap.size 149 i0 (.agg #[.int .i64 0, .int .i64 0, .int .i64 0, .int .i64 0]) 4 32 und_lines hi0 hz0 hz1 hz2 rfl (by decide) _ xs.length _ rfl (HI7.out.own.alloc _) ⟨W5.heap.size, 0, none⟩ 1 1 [.int .i64 x.a, .int .i64 x.b, .int .i64 x.m, .int .i64 x.pl] rfl rfl (fun j u h => four_news _ x.a x.b x.m x.pl _ j u h) (by simp [Value.oneCell']) (by unfold maxLen; omega) (by omega) (by simp; omega) ?_; intro v' w9 hown9 hgr9 _; have HO9 := hid (show w9.ownsRow W0.heap.size 149 4 v' (xs ++ [x]).length (lnsC (xs ++ [x])) by rw [lnsC_append, List.length_append]; exact hown9); have HG9 := hid ((Below.toGrown ((Below.refl _ _).alloc (Nat.le_refl _) (.cells #[.int .i64 x.a, .int .i64 x.b, .int .i64 x.m, .int .i64 x.pl] 149)) _).trans hgr9); clear hown9 hgr9))
            go_roundg (gk - 1)
            case measure => have := HM.out.1; omega
            case rel =>
              refine ⟨xs ++ [x], s2, ExI.row HI7.out HO9.out HG9.out, by rw [List.length_append]; have := HM.out; have := HLT.out.2.1; simp only [List.length_cons, List.length_nil]; omega, fun h => ⟨by have := (HLT.out.2.2 h).1; have := HM.out; omega, by rw [List.length_append]; have := (HLT.out.2.2 h).1; have := HM.out; simp only [List.length_cons, List.length_nil]; omega⟩, fun _ => HN.out HE0.out, ?_⟩
              show _ = _
              rw [List.map_append, ← HZ8.out]
              by_cases he : s2.e ≠ 0
              · rw [if_pos he, exactG_end (.inl he)]; rfl
              · rw [if_neg he]
                exact exactG_fuel n _ _ _ _ HLT.out.1 (Nat.le_refl _) (by have := (HLT.out.2.2 (by omega)).1; omega)
          · obtain ⟨j, hj⟩ : ∃ j, xs.length = j + 1 := ⟨xs.length - 1, by omega⟩
            obtain ⟨g, cap, ev, hbg, hgl, hnc, hcm, hfz, hcs⟩ := owns_lns HI3.out.own (by omega)
            obtain ⟨y0, y1, _, _⟩ := hcs j (by omega)
            injection ev with ev1 _ ev3
            subst ev1 ev3
            have hcl2 : Hid (∀ W', Below W3.heap.size W3 W' → W'.cell? ⟨g, j * 4, none⟩ = some (.int .i64 (xs[j]?.getD default).a) ∧ W'.cell? ⟨g, j * 4 + 1, none⟩ = some (.int .i64 (xs[j]?.getD default).b)) := fun W' hB => ⟨(hB.cell hgl).trans y0, (hB.cell hgl).trans y1⟩
            have HCP := hid (cmpP_ge (xs[j]?.getD default).a (xs[j]?.getD default).b x.a x.b)
            have HBB : Hid (badL (xs.map lnE) x ↔ ¬ cmpP (xs[j]?.getD default).a (xs[j]?.getD default).b x.a x.b < 0) := by
              show _ ↔ _
              rw [HCP.out]
              unfold badL
              rw [List.length_map, hj, Nat.add_sub_cancel, lnE_get]
              show (x.b < x.a ∨ 0 < j + 1 ∧ (x.a < (xs[j]?.getD default).a ∨ x.a = (xs[j]?.getD default).a ∧ x.b ≤ (xs[j]?.getD default).b)) ↔ _
              omega
            have HCM := hid (fun w => n_compare (xs[j]?.getD default).a (xs[j]?.getD default).b x.a x.b w)
            clear HCP y0 y1 hcs hfz hbg hnc hcm
            generalize (xs[j]?.getD default).a = la at *
            generalize (xs[j]?.getD default).b = lb at *
            generalize cmpP la lb x.a x.b = cv at *
            have hjI : (j : Int) < (xs.length : Int) := by omega
            have hj0 : (0 : Int) ≤ (j : Int) := by omega
            have hLp : (0 : Int) < (xs.length : Int) := by omega
            have hLn : 0 < xs.length := by omega
            have hLe : ¬ xs = [] := fun e => by rw [e] at hLn; simp at hLn
            have wj : IntKind.i64.wrap ((xs.length : Int) - 1) = (j : Int) := by rw [IntWalk.i64_in _ (by have := HSZ.out; omega)]; omega
            have HJ := hid hj
            clear hj hem
            by_cases hcv : 0 ≤ cv
            · have HBAD : Hid (badL (xs.map lnE) x) := HBB.out.2 (by omega)
              let S : World → Prop := fun W' => Hid (Below W3.heap.size W3 W')
              (refine wp_region_text 22 [0,1,2,3,4,5,6,7,8,9,10,11,12,13,14,15,16,17,18,19,20,21] S (by kernel_rfl) (by kernel_rfl) (by intro _ _ d _ _ h; cases d <;> exact h) ?hS ?_; rotate_left; simp only [List.map_cons, List.map_nil, List.getD_cons_zero, List.getD_cons_succ, List.drop_succ_cons, List.drop_zero])
              case hS => exact Below.drew (Below.refl _ _)
              (repeat ((refine' wpSeq_take rfl _ (by rfl) ?_ ?_; rotate_left; focus (intro w' hS; (try dsimp only at hS); obtain ⟨s0, s1⟩ := hcl.out _ hS.out; obtain ⟨s2, s3⟩ := hcl2.out _ hS.out; go_simp; (first | done | with_reducible rfl)); (try simp only [Act.put, List.setIfInBounds_toArray, List.set_cons_zero, List.set_cons_succ])); (try simp only [Act.put, List.setIfInBounds_toArray, List.set_cons_zero, List.set_cons_succ])))
              (refine wpSeq_call rfl (by rfl) (fun K hK => ?_); go_simp; refine ((HCM.out _)).mono ?_; rintro e W5 ⟨rfl, hB5⟩; refine hK _ _ (((Below.drew (Below.refl W3.heap.size W3)).trans hB5)) ?_; clear hK K; (try simp only [Act.put, List.setIfInBounds_toArray, List.set_cons_zero, List.set_cons_succ]))
              have HB5 := hid ((Below.drew (Below.refl W3.heap.size W3)).trans hB5)
              clear hB5
              (repeat ((refine' wpSeq_take rfl _ (by rfl) ?_ ?_; rotate_left; focus (intro w' hS; (try dsimp only at hS); have s1 := hS; go_simp; (first | done | with_reducible rfl)); (try simp only [Act.put, List.setIfInBounds_toArray, List.set_cons_zero, List.set_cons_succ])); (try simp only [Act.put, List.setIfInBounds_toArray, List.set_cons_zero, List.set_cons_succ])))
              refine wpSeq_nil ?_
              clear S hb1 hcv wj hj0 hjI hLp hLn hLe
              have HI5 := hid (HI3.out.below HB5.out)
              have HX5 := hid (HXB.out.below HB5.out)
              clear HI3 HXB HB5 HCM hcl2 HBB
              go_upto_region 6 with fail
              have x3 : W5.cell? ⟨X, 3, none⟩ = some (.int .i64 x.pl) := (HX5.out.cell 3).trans rfl
              have hXl5 := HX5.out.lt
              have hrl := HI5.out.tk.lt
              let S : World → Prop := fun W' => W'.cell? ⟨X, 3, none⟩ = some (.int .i64 x.pl)
              (refine wp_region_text 5 [0,1,2,3,4] S (by kernel_rfl) (by kernel_rfl) (by intro _ _ d _ _ h; cases d <;> exact h) ?hS ?_; rotate_left; simp only [List.map_cons, List.map_nil, List.getD_cons_zero, List.getD_cons_succ, List.drop_succ_cons, List.drop_zero])
              case hS => exact ((HX5.out.below (Below.drew (Below.refl _ _))).cell 3).trans rfl
              (repeat ((refine' wpSeq_take rfl _ (by rfl) ?_ ?_; rotate_left; focus (intro w' hS; (try dsimp only at hS); have s1 : w'.cell? ⟨X, 3, none⟩ = some (.int .i64 x.pl) := hS; go_simp; (first | done | with_reducible rfl)); (try simp only [Act.put, List.setIfInBounds_toArray, List.set_cons_zero, List.set_cons_succ])); (try simp only [Act.put, List.setIfInBounds_toArray, List.set_cons_zero, List.set_cons_succ])))
              refine wpSeq_nil ?_
              clear S
              have HI6 := hid (HI5.out.below (Below.drew (Below.refl _ _)))
              have HX6 := hid (Blk.drew HX5.out)
              clear HI5 HX5 x3 hXl5
              go_wp2_with fail
              refine (t_fail _ rb tb _ _ s2 HI6.out.tk 9 x.pl).mono ?_
              rintro e w8 ⟨rfl, ht8, hg8⟩
              have HI7 := hid (HI6.out.step ht8 hg8)
              have HX7 := hid (HX6.out.grown hg8 (fun e => by have := HRX.out; simp at e; omega))
              have HFT := hid (fail_ts s2 9 x.pl)
              have HFE := hid (fun h => fail_e (s := s2) (k := 9) (p := x.pl) (by decide) h)
              have HZ7 : Hid ((xs.map lnE ++ [lnE x], s2.fail 9 x.pl) = Z ∨ s2.e ≠ 0 ∧ (xs.map lnE ++ [lnE x], s2) = Z) := by
                have h := HZ.out
                by_cases he : s2.e ≠ 0
                · rw [if_pos he] at h; exact .inr ⟨he, h⟩
                · rw [if_neg he, if_pos HBAD.out] at h; exact .inl h
              have HF0 := hid (fun (h : s2.e ≠ 0) => (show s2.fail 9 x.pl = s2 by unfold Rs.fail; rw [if_neg h]))
              have HZ8 : Hid ((xs.map lnE ++ [lnE x], s2.fail 9 x.pl) = Z) := by
                rcases HZ7.out with h | ⟨h1, h2⟩
                · exact h
                · show _ = _; rw [HF0.out h1]; exact h2
              have HT8 : Hid (TsOk (s2.fail 9 x.pl).ts ∧ (s2.fail 9 x.pl).ts.length ≤ s'.ts.length ∧ ((s2.fail 9 x.pl).e = 0 → False)) := ⟨by rw [HFT.out]; exact HLT.out.1, by rw [HFT.out]; exact HLT.out.2.1, HFE.out⟩
              clear ht8 hg8 HI6 HX6 HFT HFE HF0 HZ7 HZ
              generalize s2.fail 9 x.pl = s3 at *
              dsimp only
              go_upto_region 7 with fail
              have x0 := HX7.out.cell 0
              have x1 := HX7.out.cell 1
              have x2 := HX7.out.cell 2
              have x3 := HX7.out.cell 3
              simp only [List.getElem?_toArray, List.getElem?_cons_zero, List.getElem?_cons_succ] at x0 x1 x2 x3
              have hXl7 := HX7.out.lt
              have hbs := HI7.out.g.size
              have hlxs : xs.length ≤ 5001 := by have := HSZ.out; omega
              go_wp2_with (at_builtin; go_loud (refine wpList_append_own _ rfl _ _ 92 rfl W0.heap.size 149 i0 (.agg #[.int .i64 0, .int .i64 0, .int .i64 0, .int .i64 0]) 4 32 und_lines hi0 hz0 hz1 hz2 rfl (by decide) _ xs.length _ rfl (HI7.out.own.alloc _) ⟨w8.heap.size, 0, none⟩ 1 1 [.int .i64 x.a, .int .i64 x.b, .int .i64 x.m, .int .i64 x.pl] rfl rfl (fun j u h => four_news _ x.a x.b x.m x.pl _ j u h) (by simp [Value.oneCell']) (by unfold maxLen; omega) (by omega) (by simp; omega) ?_; intro v' w9 hown9 hgr9 _; have HO9 := hid (show w9.ownsRow W0.heap.size 149 4 v' (xs ++ [x]).length (lnsC (xs ++ [x])) by rw [lnsC_append, List.length_append]; exact hown9); have HG9 := hid ((Below.toGrown ((Below.refl _ _).alloc (Nat.le_refl _) (.cells #[.int .i64 x.a, .int .i64 x.b, .int .i64 x.m, .int .i64 x.pl] 149)) _).trans hgr9); clear hown9 hgr9))
              go_roundg (gk - 1)
              case measure => have := HM.out.1; omega
              case rel =>
                refine ⟨xs ++ [x], s3, ExI.row HI7.out HO9.out HG9.out, by rw [List.length_append]; have := HM.out; have := HT8.out.2.1; simp only [List.length_cons, List.length_nil]; omega, fun h => (HT8.out.2.2 h).elim, fun h => (HT8.out.2.2 h).elim, ?_⟩
                show _ = _
                rw [List.map_append, exactG_end (.inl (fun h => HT8.out.2.2 h))]
                exact HZ8.out
            · have HOK : Hid (¬ badL (xs.map lnE) x) := fun h => HBB.out.1 h (by omega)
              let S : World → Prop := fun W' => Hid (Below W3.heap.size W3 W')
              (refine wp_region_text 22 [0,1,2,3,4,5,6,7,8,9,10,11,12,13,14,15,16,17,18,19,20,21] S (by kernel_rfl) (by kernel_rfl) (by intro _ _ d _ _ h; cases d <;> exact h) ?hS ?_; rotate_left; simp only [List.map_cons, List.map_nil, List.getD_cons_zero, List.getD_cons_succ, List.drop_succ_cons, List.drop_zero])
              case hS => exact Below.drew (Below.refl _ _)
              (repeat ((refine' wpSeq_take rfl _ (by rfl) ?_ ?_; rotate_left; focus (intro w' hS; (try dsimp only at hS); obtain ⟨s0, s1⟩ := hcl.out _ hS.out; obtain ⟨s2, s3⟩ := hcl2.out _ hS.out; go_simp; (first | done | with_reducible rfl)); (try simp only [Act.put, List.setIfInBounds_toArray, List.set_cons_zero, List.set_cons_succ])); (try simp only [Act.put, List.setIfInBounds_toArray, List.set_cons_zero, List.set_cons_succ])))
              (refine wpSeq_call rfl (by rfl) (fun K hK => ?_); go_simp; refine ((HCM.out _)).mono ?_; rintro e W5 ⟨rfl, hB5⟩; refine hK _ _ (((Below.drew (Below.refl W3.heap.size W3)).trans hB5)) ?_; clear hK K; (try simp only [Act.put, List.setIfInBounds_toArray, List.set_cons_zero, List.set_cons_succ]))
              have HB5 := hid ((Below.drew (Below.refl W3.heap.size W3)).trans hB5)
              clear hB5
              (repeat ((refine' wpSeq_take rfl _ (by rfl) ?_ ?_; rotate_left; focus (intro w' hS; (try dsimp only at hS); have s1 := hS; go_simp; (first | done | with_reducible rfl)); (try simp only [Act.put, List.setIfInBounds_toArray, List.set_cons_zero, List.set_cons_succ])); (try simp only [Act.put, List.setIfInBounds_toArray, List.set_cons_zero, List.set_cons_succ])))
              refine wpSeq_nil ?_
              clear S hb1 hcv wj hj0 hjI hLp hLn hLe
              have HI5 := hid (HI3.out.below HB5.out)
              have HX5 := hid (HXB.out.below HB5.out)
              clear HI3 HXB HB5 HCM hcl2 HBB
              have HI7 := HI5
              have HX7 := HX5
              have HZ8 : Hid ((if s2.e ≠ 0 then (xs.map lnE ++ [lnE x], s2) else exactG n (s'.ts.length - 1) (xs.map lnE ++ [lnE x]) s2) = Z) := by
                have h := HZ.out
                rw [if_neg HOK.out] at h
                exact h
              clear HI5 HX5 HZ
              have hrl := HI7.out.tk.lt
              go_upto_region 7 with fail
              have x0 := HX7.out.cell 0
              have x1 := HX7.out.cell 1
              have x2 := HX7.out.cell 2
              have x3 := HX7.out.cell 3
              simp only [List.getElem?_toArray, List.getElem?_cons_zero, List.getElem?_cons_succ] at x0 x1 x2 x3
              have hXl7 := HX7.out.lt
              have hbs := HI7.out.g.size
              have hlxs : xs.length ≤ 5001 := by have := HSZ.out; omega
              go_wp2_with (at_builtin; go_loud (refine wpList_append_own _ rfl _ _ 92 rfl W0.heap.size 149 i0 (.agg #[.int .i64 0, .int .i64 0, .int .i64 0, .int .i64 0]) 4 32 und_lines hi0 hz0 hz1 hz2 rfl (by decide) _ xs.length _ rfl (HI7.out.own.alloc _) ⟨W5.heap.size, 0, none⟩ 1 1 [.int .i64 x.a, .int .i64 x.b, .int .i64 x.m, .int .i64 x.pl] rfl rfl (fun j u h => four_news _ x.a x.b x.m x.pl _ j u h) (by simp [Value.oneCell']) (by unfold maxLen; omega) (by omega) (by simp; omega) ?_; intro v' w9 hown9 hgr9 _; have HO9 := hid (show w9.ownsRow W0.heap.size 149 4 v' (xs ++ [x]).length (lnsC (xs ++ [x])) by rw [lnsC_append, List.length_append]; exact hown9); have HG9 := hid ((Below.toGrown ((Below.refl _ _).alloc (Nat.le_refl _) (.cells #[.int .i64 x.a, .int .i64 x.b, .int .i64 x.m, .int .i64 x.pl] 149)) _).trans hgr9); clear hown9 hgr9))
              go_roundg (gk - 1)
              case measure => have := HM.out.1; omega
              case rel =>
                refine ⟨xs ++ [x], s2, ExI.row HI7.out HO9.out HG9.out, by rw [List.length_append]; have := HM.out; have := HLT.out.2.1; simp only [List.length_cons, List.length_nil]; omega, fun h => ⟨by have := (HLT.out.2.2 h).1; have := HM.out; omega, by rw [List.length_append]; have := (HLT.out.2.2 h).1; have := HM.out; simp only [List.length_cons, List.length_nil]; omega⟩, fun _ => HN.out HE0.out, ?_⟩
                show _ = _
                rw [List.map_append, ← HZ8.out]
                by_cases he : s2.e ≠ 0
                · rw [if_pos he, exactG_end (.inl he)]; rfl
                · rw [if_neg he]
                  exact exactG_fuel n _ _ _ _ HLT.out.1 (Nat.le_refl _) (by have := (HLT.out.2.2 (by omega)).1; omega)
    · have he1 : (s'.e == 0) = false := by simpa using he
      have HZ2 : Hid ((xs.map lnE, s') = Z) := by rw [← HZ.out, exactG_end (.inl he)]; exact rfl
      clear HZ
      go_wp2_with fail
      refine (t_need _ rb tb _ _ s' HI.out.tk [59]).mono ?_
      rintro e w3 ⟨rfl, ht3, hg3⟩
      have HI3 := hid (HI.out.step ht3 hg3)
      clear HI ht3 hg3
      have c6 := HI3.out.tk.rest.2.2.2.2
      have hrl := HI3.out.tk.lt
      have HR3 := hid (HR.out.grown HI3.out.g (fun e => by have := HRB.out; simp at e; omega))
      have HB3 : Hid (w.grownBy w3 (some rb)) := grown_trans (grown_of HB0.out _) HI3.out.g
      dsimp only
      go_wp2_with fail
      refine (n_of n (xs.map lnE) _ w3 (owns_lnsR HI3.out.own) (by rw [List.length_map]; have := HSZ.out; omega)).mono ?_
      rintro e w4 ⟨ev, rfl, hev, hB4⟩
      have HR4 := hid (HR3.out.below hB4)
      have HI4 := hid (HI3.out.below hB4)
      have HEV := hid hev
      have HB4 := hid (grown_trans HB3.out (grown_of hB4 _))
      have hw3 : w.heap.size < w3.heap.size := HR3.out.lt
      have HW3 := hid hw3
      clear hB4 hev c6 hrl hw3
      obtain ⟨ea, ecap, ee, _⟩ := owns_at HEV.out
      rw [List.length_map] at ee
      subst ee
      have r0 := HR4.out.cell 0
      have r1 := HR4.out.cell 1
      simp only [List.getElem?_toArray, List.getElem?_cons_zero, List.getElem?_cons_succ] at r0 r1
      have f0 := HR4.out.frozen 0
      have f1 := HR4.out.frozen 1
      have rl := HR4.out.lt
      dsimp only
      go_wp2_with fail
      have HR5 := hid ((HR4.out.set 0 (.int .i64 n)).set 1 (.slice ea xs.length ecap))
      have hne : rb ≠ w.heap.size := by have := HRB.out; omega
      have hnt : tb ≠ w.heap.size := by have := HTB.out; omega
      refine bodyPost_ret (results_cell1' rfl rfl (load_gr rfl HR5.out)) rfl ⟨_, rfl, ?_, ?_, ?_⟩
      · have hq : (Value.slice ea xs.length ecap).ownBlock ≠ some w.heap.size := fun e => by have := (HEV.out.lt _ e).1; have := HW3.out; omega
        rw [← HZ2.out]
        exact owns_base ((HR4.out.set 0 (.int .i64 n)).owns (HR4.out.owns HEV.out hq 0 _) hq 1 _) (by have := HW3.out; omega)
      · rw [← HZ2.out]
        exact (HI4.out.tk.setO hne hnt 0 (.int .i64 n)).setO hne hnt 1 (.slice ea xs.length ecap)
      · exact grown_setN _ _ _ _ (Nat.le_refl _) _ (grown_setN _ _ _ _ (Nat.le_refl _) _ HB4.out)

end Go.Proofs.YtemmepgfngkgmaaGreatDoor
