/-
  Contracts of the notation: the tokens of a text (open), a number.
-/
import Derived.Test.YtemmepgfngkgmaaGreatDoorN4
namespace Go.Proofs.YtemmepgfngkgmaaGreatDoor
open Go.RowKit
set_option linter.unusedVariables false
set_option linter.unusedSimpArgs false

theorem scanG_ok : ∀ (n : Nat) (s : List UInt8) (p : Nat) (l : List Tok), s.length < n → scanG n s p = .inr l → 0 < l.length ∧ l.length ≤ s.length + 1 ∧ (l[l.length - 1]?.getD default).kind = 3 ∧ ∀ t ∈ l, t.text.length ≤ s.length
  | 0, s, p, l, h, _ => by omega
  | n + 1, [], p, l, _, h => by
    unfold scanG at h
    injection h with h
    subst h
    exact ⟨Nat.le_refl _, Nat.le_refl _, rfl, fun t ht => by rw [List.mem_singleton.1 ht]; exact Nat.le_refl _⟩
  | n + 1, c :: r, p, l, hn, h => by
    unfold scanG at h
    simp only [List.length_cons] at hn
    by_cases h32 : c = 32
    · rw [if_pos h32] at h
      obtain ⟨h1, h2, h3, h4⟩ := scanG_ok n r (p + 1) l (by omega) h
      exact ⟨h1, by simp; omega, h3, fun t ht => by have := h4 t ht; simp; omega⟩
    · rw [if_neg h32] at h
      by_cases he : tokErr (kindOf c) (runOf (c :: r)) ≠ 0
      · rw [if_pos he] at h; cases h
      · rw [if_neg he] at h
        have hr := runOf_len c r
        have hd : ((c :: r).drop (runOf (c :: r)).length).length = (c :: r).length - (runOf (c :: r)).length := List.length_drop
        cases hz : scanG n ((c :: r).drop (runOf (c :: r)).length) (p + (runOf (c :: r)).length) with
        | inl x => rw [hz] at h; cases h
        | inr m =>
          rw [hz] at h
          injection h with h
          subst h
          simp only [List.length_cons] at hr hd
          obtain ⟨h1, h2, h3, h4⟩ := scanG_ok n _ _ m (by omega) hz
          refine ⟨by simp, by simp only [List.length_cons]; omega, ?_, ?_⟩
          · rw [List.length_cons, show m.length + 1 - 1 = (m.length - 1) + 1 by omega, List.getElem?_cons_succ]
            exact h3
          · intro t ht
            rcases List.mem_cons.1 ht with rfl | ht
            · simp only [List.length_cons]; omega
            · have := h4 t ht; simp only [List.length_cons]; omega
theorem scanR_ok {s : List UInt8} {l : List Tok} (h : scanR s = .inr l) : TsOk l := by
  unfold scanR at h
  by_cases hs : 4096 < s.length
  · rw [if_pos hs] at h; cases h
  · rw [if_neg hs] at h
    obtain ⟨h1, h2, h3, h4⟩ := scanG_ok _ s 0 l (by omega) h
    exact ⟨h1, by omega, h3, fun t ht => by have := h4 t ht; omega⟩
theorem opened_ok (s : List UInt8) : TsOk (opened (scanR s)).ts := by
  unfold opened
  cases h : scanR s with
  | inl x => exact ⟨show 0 < 1 by decide, show 1 ≤ 4097 by decide, rfl, fun t ht => by rw [List.mem_singleton.1 ht]; exact Nat.zero_le _⟩
  | inr l => exact scanR_ok h
theorem scan_no {s : List UInt8} {x : Int × Int} (h : scanR s = .inl x) : x.2 ≠ 0 := by
  have key : ∀ (n : Nat) (s : List UInt8) (p : Nat) (x : Int × Int), scanG n s p = .inl x → x.2 ≠ 0 := by
    intro n
    induction n with
    | zero => intro s p x h; cases s <;> cases h
    | succ n ih =>
      intro s p x h
      cases s with
      | nil => cases h
      | cons c r =>
        unfold scanG at h
        by_cases h32 : c = 32
        · rw [if_pos h32] at h; exact ih _ _ _ h
        · rw [if_neg h32] at h
          by_cases he : tokErr (kindOf c) (runOf (c :: r)) ≠ 0
          · rw [if_pos he] at h
            injection h with h
            subst h
            exact he
          · rw [if_neg he] at h
            cases hz : scanG n ((c :: r).drop (runOf (c :: r)).length) (p + (runOf (c :: r)).length) with
            | inl y => rw [hz] at h; injection h with h; subst h; exact ih _ _ _ hz
            | inr m => rw [hz] at h; cases h
  unfold scanR at h
  split at h
  · injection h with h; subst h; decide
  · exact key _ _ _ _ h

theorem ToksR.head {w : World} {v : Value} {l : List Tok} (h : ToksR w v l) (h0 : 0 < l.length) : ∃ tb off cap, v = .slice (some ⟨tb, off, none⟩) l.length cap ∧ tb < w.heap.size := by
  obtain ⟨a, cap, rfl, _, _, _, hc⟩ := h
  obtain ⟨b, off, rfl, hb, _⟩ := hc.tok h0
  exact ⟨b, off, cap, rfl, hb⟩

theorem load_tokens {w : World} {b : Nat} {v0 v1 v2 : Value} (c0 : w.cell? ⟨b, 0, none⟩ = some v0) (c1 : w.cell? ⟨b, 1, none⟩ = some v1) (c2 : w.cell? ⟨b, 2, none⟩ = some v2) :
    (loadVar 102 ⟨b, 0, none⟩).run Tryz.prog w = .ok (.agg #[v0, v1, v2]) w := by
  go_simp

def RetOpen (w : World) (s : Rs) (e : Ending) (w' : World) : Prop := ∃ lv, e = .returned (.agg #[lv, .int .i64 s.e, .int .i64 s.pl]) ∧ ToksR w' lv s.ts ∧ Below w.heap.size w w'

theorem open_err (w1 : World) (b : Nat) (x1 x2 : Int) (hb : Blk w1 b #[.slice none 0 0, .int .i64 0, .int .i64 0] 102) (W : World)
    (hW : W = (((w1.setCell ⟨b, 0, none⟩ (.slice (some ⟨w1.heap.size, 0, none⟩) 1 1)).setCell ⟨b, 1, none⟩ (.int .i64 x2)).setCell ⟨b, 2, none⟩ (.int .i64 x1)).alloc (.cells #[.int .i64 3, .string { data := #[] }, .int .i64 0] 134)) :
    W.cell? ⟨b, 0, none⟩ = some (.slice (some ⟨w1.heap.size, 0, none⟩) 1 1) ∧ W.cell? ⟨b, 1, none⟩ = some (.int .i64 x2) ∧ W.cell? ⟨b, 2, none⟩ = some (.int .i64 x1) ∧ ToksR W (.slice (some ⟨w1.heap.size, 0, none⟩) 1 1) [⟨3, [], 0⟩] := by
  have h := (((hb.set 0 (.slice (some ⟨w1.heap.size, 0, none⟩) 1 1)).set 1 (.int .i64 x2)).set 2 (.int .i64 x1)).alloc (.cells #[.int .i64 3, .string { data := #[] }, .int .i64 0] 134)
  rw [← hW] at h
  have h0 := h.cell 0
  have h1 := h.cell 1
  have h2 := h.cell 2
  refine ⟨h0.trans rfl, h1.trans rfl, h2.trans rfl, _, _, rfl, Nat.le_refl _, by omega, by decide, ?_⟩
  refine .inr ⟨w1.heap.size, 0, rfl, by rw [hW]; simp, fun i hi => ?_⟩
  have hn := Blk.new (((w1.setCell ⟨b, 0, none⟩ (.slice (some ⟨w1.heap.size, 0, none⟩) 1 1)).setCell ⟨b, 1, none⟩ (.int .i64 x2)).setCell ⟨b, 2, none⟩ (.int .i64 x1)) #[.int .i64 3, .string { data := #[] }, .int .i64 0] 134
  rw [← hW] at hn
  have := hn.cell i
  simp only [World.size_setCell] at this
  rw [Nat.zero_add, this, List.getElem?_toArray]
  rfl
theorem open_ok (w1 : World) (b : Nat) (v : Value) (hb : Blk w1 b #[.slice none 0 0, .int .i64 0, .int .i64 0] 102) (W : World)
    (hW : W = ((w1.setCell ⟨b, 0, none⟩ v).setCell ⟨b, 1, none⟩ (.int .i64 0)).setCell ⟨b, 2, none⟩ (.int .i64 0)) :
    W.cell? ⟨b, 0, none⟩ = some v ∧ W.cell? ⟨b, 1, none⟩ = some (.int .i64 0) ∧ W.cell? ⟨b, 2, none⟩ = some (.int .i64 0) := by
  have h := (((hb.set 0 v).set 1 (.int .i64 0)).set 2 (.int .i64 0))
  rw [← hW] at h
  exact ⟨(h.cell 0).trans rfl, (h.cell 1).trans rfl, (h.cell 2).trans rfl⟩

set_option maxRecDepth 100000 in
set_option maxHeartbeats 1000000 in
theorem n_open (s : List UInt8) (w : World) : Calls Tryz.prog 77 #[.string (str s)] w (RetOpen w (opened (scanR s))) := by
  have hs := hid (fun w => p_Scan s w)
  have hB0 := hid (Below.alloc (Below.refl w.heap.size w) (Nat.le_refl _) (.cells #[.slice none 0 0, .int .i64 0, .int .i64 0] 102))
  have hb0 := hid (Blk.new w #[.slice none 0 0, .int .i64 0, .int .i64 0] 102)
  cases hz : scanR s with
  | inl x =>
    have h0 := scan_no hz
    rw [hz] at hs
    clear hz
    obtain ⟨x1, x2⟩ := x
    have hx : (x2 != 0) = true := by simpa using h0
    clear h0
    go_enter Tryz.func77, Tryz.ntmps77
    go_wp2_with fail
    refine (hs.out _).mono ?_
    rintro e w1 ⟨v, rfl, hown, hB⟩
    have HB := hid (hB0.out.trans (hB.mono hB0.out.size))
    have HBL := hid (hb0.out.below hB)
    simp only [Scn.at', Scn.no]
    clear hB hown hB0 hb0
    have hlt := HBL.out.lt
    have f0 := HBL.out.frozen 0
    have f1 := HBL.out.frozen 1
    have f2 := HBL.out.frozen 2
    have c0 := HBL.out.cell 0
    have c1 := HBL.out.cell 1
    have c2 := HBL.out.cell 2
    simp only [List.getElem?_toArray, List.getElem?_cons_zero, List.getElem?_cons_succ] at c0 c1 c2
    go_wp2_with fail
    obtain ⟨W, hW⟩ : ∃ W, W = (((w1.setCell ⟨w.heap.size, 0, none⟩ (.slice (some ⟨w1.heap.size, 0, none⟩) 1 1)).setCell ⟨w.heap.size, 1, none⟩ (.int .i64 x2)).setCell ⟨w.heap.size, 2, none⟩ (.int .i64 x1)).alloc (.cells #[.int .i64 3, .string { data := #[] }, .int .i64 0] 134) := ⟨_, rfl⟩
    rw [← hW]
    obtain ⟨d0, d1, d2, ht⟩ := open_err w1 w.heap.size x1 x2 HBL.out W hW
    refine bodyPost_ret (results_cell1' rfl rfl (load_tokens d0 d1 d2)) rfl ⟨_, rfl, ht, ?_⟩
    rw [hW]
    exact (((HB.out.setCell (p := ⟨w.heap.size, 0, none⟩) (Nat.le_refl _) _).setCell (p := ⟨w.heap.size, 1, none⟩) (Nat.le_refl _) _).setCell (p := ⟨w.heap.size, 2, none⟩) (Nat.le_refl _) _).alloc (by have := HB.out.size; simpa using this) _
  | inr l =>
    rw [hz] at hs
    have hok := scanR_ok hz
    clear hz
    go_enter Tryz.func77, Tryz.ntmps77
    go_wp2_with fail
    refine (hs.out _).mono ?_
    rintro e w1 ⟨v, rfl, hown, hB⟩
    have HT := hid (owns_toks hown (by have := hok.2.1; simp only [Scn.toks]; omega))
    have HBV := hid (fun k (hk : v.ownBlock = some k) => (hown.lt k hk).1)
    have HB := hid (hB0.out.trans (hB.mono hB0.out.size))
    have HBL := hid (hb0.out.below hB)
    obtain ⟨a, c, rfl, _⟩ := HT.out
    simp only [Scn.at', Scn.no]
    have hw0 : w.heap.size < w.heap.size + 1 := by omega
    have hsz : (w.alloc (.cells #[.slice none 0 0, .int .i64 0, .int .i64 0] 102)).heap.size = w.heap.size + 1 := by simp
    rw [hsz] at HBV
    clear hB hown hB0 hb0 hok hw0 hsz
    have hlt := HBL.out.lt
    have f0 := HBL.out.frozen 0
    have f1 := HBL.out.frozen 1
    have f2 := HBL.out.frozen 2
    have c0 := HBL.out.cell 0
    have c1 := HBL.out.cell 1
    have c2 := HBL.out.cell 2
    simp only [List.getElem?_toArray, List.getElem?_cons_zero, List.getElem?_cons_succ] at c0 c1 c2
    go_wp2_with fail
    obtain ⟨W, hW⟩ : ∃ W, W = ((w1.setCell ⟨w.heap.size, 0, none⟩ (.slice a (Scn.toks (.inr l)).length c)).setCell ⟨w.heap.size, 1, none⟩ (.int .i64 0)).setCell ⟨w.heap.size, 2, none⟩ (.int .i64 0) := ⟨_, rfl⟩
    rw [← hW]
    obtain ⟨d0, d1, d2⟩ := open_ok w1 w.heap.size _ HBL.out W hW
    refine bodyPost_ret (results_cell1' rfl rfl (load_tokens d0 d1 d2)) rfl ⟨_, rfl, ?_, ?_⟩
    · rw [hW]
      have hne : ∀ x, a = some x → x.block ≠ w.heap.size := fun x hx => by
        subst hx
        have := HBV.out x.block rfl
        omega
      exact ((HT.out.grown (grown_set _ _ _ _) hne).grown (grown_set _ _ _ _) hne).grown (grown_set _ _ _ _) hne
    · rw [hW]
      exact ((HB.out.setCell (p := ⟨w.heap.size, 0, none⟩) (Nat.le_refl _) _).setCell (p := ⟨w.heap.size, 1, none⟩) (Nat.le_refl _) _).setCell (p := ⟨w.heap.size, 2, none⟩) (Nat.le_refl _) _

-- NUMBER
set_option maxRecDepth 100000 in
set_option maxHeartbeats 2000000 in
theorem t_number (w : World) (b tb : Nat) (T : TypeId) (rest : List Value) (s : Rs) (hE : Env w) (h : Tk w b tb T rest s) (lo hi : Int) :
    Calls Tryz.prog 99 #[.pointer (some ⟨b, 0, none⟩), .int .i64 lo, .int .i64 hi] w fun e w' => e = .returned (.int .i64 (s.num lo hi).1) ∧ Tk w' b tb T rest (s.num lo hi).2 ∧ w.grownBy w' (some b) := by
  obtain ⟨off, cap, hlt, hne, h0, h2, h3, d0, d1, d2, c0, c1, c2, hf⟩ := h.cells
  have hbl := h.lt
  have HN := hid (t_now w b tb T rest s h)
  have HF := hid (fun (w1 : World) (hB : Below w.heap.size w w1) k p => t_fail w1 b tb T rest s (h.below hB) k p)
  have HSK := hid (fun (w1 : World) (hB : Below w.heap.size w w1) h3 => t_skip w1 b tb T rest s (h.below hB) h3)
  have HNA := hid (fun (w1 : World) (hB : Below w.heap.size w w1) => lx_Natural s.now.text w1 (hE.below hB) (h.1.text 0))
  have HD1 : Hid (∀ w1, Below w.heap.size w w1 → w1.cell? ⟨b, 1, none⟩ = some (.int .i64 s.e)) := fun w1 hB => (hB.cell hbl).trans d1
  have HBD := hid (natR_bd s.now.text)
  obtain ⟨z, hz⟩ : ∃ z, z = s.num lo hi := ⟨_, rfl⟩
  rw [← hz]
  have HZ := hid hz
  clear d0 d1 d2 c0 c1 c2 hf h h0 h2 h3 hz hE hne hlt
  unfold Rs.num at HZ
  by_cases he : s.e = 0
  case neg =>
    have he1 : (s.e != 0) = true := by simpa using he
    obtain rfl : z = (0, s.fail 4 s.now.pos) := by rw [HZ.out, if_pos (.inl he)]
    clear HZ HNA HSK HBD he
    go_enter Tryz.func99, Tryz.ntmps99
    go_wp2_with fail
    refine HN.out.mono ?_
    rintro e w1 ⟨rfl, hB1⟩
    have HB1 := hid hB1
    clear hB1
    dsimp only
    have x1 := HD1.out _ (HB1.out.alloc HB1.out.size (.cells #[.int .i64 s.now.kind, .string (str s.now.text), .int .i64 s.now.pos] 134))
    have q0 := tok_kind
    generalize s.e = ee at *
    go_wp2_with fail
    refine (HF.out _ (HB1.out.alloc HB1.out.size _) 4 s.now.pos).mono ?_
    rintro e w3 ⟨rfl, hT3, hg⟩
    dsimp only
    go_wp2_with fail
    go_ret
    exact ⟨rfl, hT3, grown_trans (grown_of (HB1.out.alloc HB1.out.size _) _) hg⟩
  by_cases hk : s.now.kind = 1
  case neg =>
    have hk1 : (s.now.kind != 1) = true := by simpa using hk
    have hk2 : (s.now.kind == 1) = false := by simpa using hk
    obtain rfl : z = (0, s.fail 4 s.now.pos) := by rw [HZ.out, if_pos (.inr hk)]
    rw [he] at HD1
    clear HZ HNA HSK HBD he hk
    go_enter Tryz.func99, Tryz.ntmps99
    go_wp2_with fail
    refine HN.out.mono ?_
    rintro e w1 ⟨rfl, hB1⟩
    have HB1 := hid hB1
    clear hB1
    dsimp only
    have x1 := HD1.out _ (HB1.out.alloc HB1.out.size (.cells #[.int .i64 s.now.kind, .string (str s.now.text), .int .i64 s.now.pos] 134))
    have q0 := tok_kind
    generalize s.now.kind = kk at *
    go_wp2_with fail
    refine (HF.out _ (HB1.out.alloc HB1.out.size _) 4 s.now.pos).mono ?_
    rintro e w3 ⟨rfl, hT3, hg⟩
    dsimp only
    go_wp2_with fail
    go_ret
    exact ⟨rfl, hT3, grown_trans (grown_of (HB1.out.alloc HB1.out.size _) _) hg⟩
  have hk3 : s.now.kind ≠ 3 := by rw [hk]; decide
  have HK3 := hid hk3
  rw [he] at HD1
  rw [hk] at HN
  clear hk3
  rw [if_neg (show ¬ (s.e ≠ 0 ∨ s.now.kind ≠ 1) by simp [he, hk])] at HZ
  by_cases hr : (natR s.now.text).2 = 0
  case neg =>
    have hr' : ((natR s.now.text).2 != 0) = true := by simpa using hr
    obtain rfl : z = (0, s.fail 2 s.now.pos) := by rw [HZ.out, if_pos (.inl hr)]
    clear HZ HSK HBD he hk hr HK3
    go_enter Tryz.func99, Tryz.ntmps99
    go_wp2_with fail
    refine HN.out.mono ?_
    rintro e w1 ⟨rfl, hB1⟩
    have HB1 := hid hB1
    clear hB1
    dsimp only
    have x1 := HD1.out _ (HB1.out.alloc HB1.out.size (.cells #[.int .i64 1, .string (str s.now.text), .int .i64 s.now.pos] 134))
    have q0 := tok_kind
    generalize (natR s.now.text).2 = ee at *
    go_wp2_with fail
    refine (HNA.out _ (HB1.out.alloc HB1.out.size _)).mono ?_
    rintro e w2 ⟨rfl, hB2⟩
    have HB2 := hid (up (HB1.out.alloc HB1.out.size _) hB2)
    have x2 : w2.cell? ⟨w1.heap.size, 2, none⟩ = some (.int .i64 s.now.pos) := by
      rw [hB2.cell (by simp)]; simp
    have x2l : w1.heap.size < w2.heap.size := by have := hB2.size; simp at this; omega
    clear hB2 x1
    dsimp only
    go_wp2_with fail
    refine (HF.out _ HB2.out 2 s.now.pos).mono ?_
    rintro e w3 ⟨rfl, hT3, hg⟩
    dsimp only
    go_wp2_with fail
    go_ret
    exact ⟨rfl, hT3, grown_trans (grown_of HB2.out _) hg⟩
  by_cases hw : witB (natR s.now.text).1 lo hi = true
  case neg =>
    have hw' : witB (natR s.now.text).1 lo hi = false := by simpa using hw
    have hw2 : (natR s.now.text).1 < lo ∨ hi < (natR s.now.text).1 := by
      unfold witB at hw'
      simp at hw'
      omega
    obtain rfl : z = (0, s.fail 2 s.now.pos) := by rw [HZ.out, if_pos (.inr hw2)]
    rw [hr] at HNA
    clear HZ HSK he hk hr HK3 hw hw2
    go_enter Tryz.func99, Tryz.ntmps99
    go_wp2_with fail
    refine HN.out.mono ?_
    rintro e w1 ⟨rfl, hB1⟩
    have HB1 := hid hB1
    clear hB1
    dsimp only
    have x1 := HD1.out _ (HB1.out.alloc HB1.out.size (.cells #[.int .i64 1, .string (str s.now.text), .int .i64 s.now.pos] 134))
    have q0 := tok_kind
    have hwi := hid (fun w => n_within (natR s.now.text).1 lo hi w)
    rw [hw'] at hwi
    clear hw'
    have hb0 := HBD.out
    generalize (natR s.now.text).1 = nn at *
    go_wp2_with fail
    refine (HNA.out _ (HB1.out.alloc HB1.out.size _)).mono ?_
    rintro e w2 ⟨rfl, hB2⟩
    have HB2 := hid (up (HB1.out.alloc HB1.out.size _) hB2)
    have x2 : w2.cell? ⟨w1.heap.size, 2, none⟩ = some (.int .i64 s.now.pos) := by
      rw [hB2.cell (by simp)]; simp
    have x2l : w1.heap.size < w2.heap.size := by have := hB2.size; simp at this; omega
    clear hB2 x1
    dsimp only
    go_wp2_with fail
    refine (hwi.out _).mono ?_
    rintro e w3 ⟨rfl, rfl⟩
    dsimp only
    go_wp2_with fail
    refine (HF.out _ HB2.out 2 s.now.pos).mono ?_
    rintro e w4 ⟨rfl, hT3, hg⟩
    dsimp only
    go_wp2_with fail
    go_ret
    exact ⟨rfl, hT3, grown_trans (grown_of HB2.out _) hg⟩
  have hw2 : ¬ ((natR s.now.text).1 < lo ∨ hi < (natR s.now.text).1) := by
    unfold witB at hw
    simp at hw
    omega
  obtain rfl : z = ((natR s.now.text).1, s.skip) := by rw [HZ.out, if_neg (show ¬ ((natR s.now.text).2 ≠ 0 ∨ (natR s.now.text).1 < lo ∨ hi < (natR s.now.text).1) from fun h => h.elim (fun h => h hr) hw2)]
  rw [hr] at HNA
  clear HZ HF he hk hr hw2
  have hwi := hid (fun w => n_within (natR s.now.text).1 lo hi w)
  rw [hw] at hwi
  clear hw
  have hb0 := HBD.out
  clear HBD
  generalize (natR s.now.text).1 = nn at *
  go_enter Tryz.func99, Tryz.ntmps99
  go_wp2_with fail
  refine HN.out.mono ?_
  rintro e w1 ⟨rfl, hB1⟩
  have HB1 := hid hB1
  clear hB1
  dsimp only
  have x1 := HD1.out _ (HB1.out.alloc HB1.out.size (.cells #[.int .i64 1, .string (str s.now.text), .int .i64 s.now.pos] 134))
  have q0 := tok_kind
  go_wp2_with fail
  refine (HNA.out _ (HB1.out.alloc HB1.out.size _)).mono ?_
  rintro e w2 ⟨rfl, hB2⟩
  have HB2 := hid (up (HB1.out.alloc HB1.out.size _) hB2)
  clear hB2 x1
  dsimp only
  go_wp2_with fail
  refine (hwi.out _).mono ?_
  rintro e w3 ⟨rfl, rfl⟩
  dsimp only
  go_wp2_with fail
  refine (HSK.out _ HB2.out HK3.out).mono ?_
  rintro e w4 ⟨rfl, hT4, hg⟩
  dsimp only
  go_wp2_with fail
  go_ret
  exact ⟨rfl, hT4, grown_trans (grown_of HB2.out _) hg⟩

end Go.Proofs.YtemmepgfngkgmaaGreatDoor
