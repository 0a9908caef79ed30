/-
  lexer.Scan: its tokens, or the offset and the error, for every text.
-/
import Derived.Test.YtkeglokokleonaaDoorK10
namespace Go.Proofs.YtkeglokokleonaaDoor
open Go.RowKit

theorem Scr.step {w : World} {B b : Nat} {s : List UInt8} {p q : Nat} {v : Value} {l : List Tok} (h : Scr w B b s p v l) : Scr (w.setCell ⟨b, 1, none⟩ (.int .i64 q)) B b s q v l := by
  have h1 : Blk (w.setCell ⟨b, 1, none⟩ (.int .i64 q)) b _ _ := h.blk.set 1 (.int .i64 q)
  have ho : v.ownBlock = none ∨ v.ownBlock ≠ some b := .inr (fun e => h.ne e.symm)
  exact ⟨h1, h.le, h.row.kept (grown_set w b 1 _) ho, h.ne, by simpa using h.size⟩

theorem Scr.start (w : World) (s : List UInt8) : Scr (w.alloc (.cells #[.string (str s), .int .i64 0, .slice none 0 0] 60)) w.heap.size w.heap.size s 0 (.slice none 0 0) [] :=
  ⟨heap_alloc_new w _, Nat.le_refl _, World.ownsRow_nil _ _ _ _, by simp [Value.ownBlock], by simp⟩

def posIn (w : World) (b : Nat) : Nat := (intOf ((w.cell? ⟨b, 1, none⟩).getD undef)).toNat
theorem Scr.pos {w : World} {B b : Nat} {s : List UInt8} {p : Nat} {v : Value} {l : List Tok} (h : Scr w B b s p v l) : posIn w b = p := by
  unfold posIn; rw [h.cells.2.1]; simp [intOf]

set_option maxRecDepth 100000 in
set_option maxHeartbeats 4000000 in
theorem p_Scan (s : List UInt8) (w : World) : Calls Tryd.prog 10 #[.string (str s)] w (RetScan (scanR s) w) := by
  have hsz := str_size s
  by_cases hlen : 4096 < s.length
  · have h1 : (4096 : Int) < ((str s).size : Int) := by rw [hsz]; omega
    have hz : scanR s = .inl (0, 19) := by unfold scanR; rw [if_pos hlen]
    rw [hz]
    clear hz hlen hsz
    go_enter Tryd.func10, Tryd.ntmps10
    go_wp2_with fail
    go_ret3
    exact ⟨_, rfl, World.ownsRow_nil _ _ _ _, Below.refl _ _⟩
  · have h1 : ¬ (4096 : Int) < ((str s).size : Int) := by rw [hsz]; omega
    have hz : scanR s = fuelS s 0 := by unfold scanR; rw [if_neg hlen]; rfl
    rw [hz]
    have HZ : Hid (Scn.pre [] (fuelS (s.drop 0) 0) = fuelS s 0) := pre_nil _
    generalize fuelS s 0 = z at *
    have HL : Hid (s.length ≤ 4096) := by show _ ≤ _; omega
    have HSZ := hid hsz
    clear hz hlen hsz
    go_enter Tryd.func10, Tryd.ntmps10
    go_wp2_with fail
    go_loopw [6] (fun _ wr => ∃ (p : Nat) (v : Value) (l : List Tok), p ≤ s.length ∧ l.length ≤ p ∧ Scr wr w.heap.size w.heap.size s p v l ∧
      Hid (Scn.pre l (fuelS (s.drop p) p) = z) ∧ Below w.heap.size w wr) (fun _ wr => s.length - posIn wr w.heap.size)
    case atStart => exact ⟨0, _, [], Nat.zero_le _, Nat.le_refl _, Scr.start w s, HZ, (Below.refl _ _).alloc (Nat.le_refl _) _⟩
    case round =>
      clear HZ
      obtain ⟨p, v, l, hp, hlp, hS, HP, hB⟩ := hrel
      obtain ⟨c0, c1, c2, hbl, f1, f2⟩ := hS.cells
      have hpos := hid hS.pos
      have HS := hid hS
      clear hS
      by_cases hpt : p < s.length
      · have hpt' : p < (str s).size := by rw [HSZ.out]; exact hpt
        have hd := str_drop hpt'
        obtain ⟨c, hcd⟩ : ∃ c, c = (str s)[p]'hpt' := ⟨_, rfl⟩
        rw [← hcd] at hd
        by_cases hc : c = 32
        · have hb : (((((str s)[p]'hpt').toNat : Nat) : Int) == 32) = true := by rw [← hcd, hc]; rfl
          have HN : Hid (Scn.pre l (fuelS (s.drop (p + 1)) (p + 1)) = z) := by
            show _ = _; rw [← HP.out, hd, hc, fuelS_blank]
          clear HP hd hcd hc
          go_wp2_with fail
          have h1 : Scr (wr.setCell ⟨w.heap.size, 1, none⟩ (.int .i64 ((p : Int) + 1))) w.heap.size w.heap.size s (p + 1) v l := HS.out.step
          refine ⟨⟨p + 1, v, l, by omega, by omega, h1, HN, hB.setCell (p := ⟨w.heap.size, 1, none⟩) (Nat.le_refl _) _⟩, ?_⟩
          rw [h1.pos, hpos.out]; omega
        · have hb : (((((str s)[p]'hpt').toNat : Nat) : Int) == 32) = false := by
            rw [← hcd, beq_eq_false_iff_ne]; intro h; exact hc (UInt8.toNat_inj.1 (Int.ofNat.inj h))
          have hnext := hid (p_next w.heap.size w.heap.size s p v l wr HS.out hpt HL.out hlp c (s.drop (p + 1)) hd)
          have hrl := runOf_len c (s.drop (p + 1))
          have hrl2 : (c :: s.drop (p + 1)).length = s.length - p := by rw [← hd, List.length_drop]
          rw [hrl2] at hrl
          have HE : Hid (tokErr (kindOf c) (runOf (c :: s.drop (p + 1))) ≠ 0 → z = .inl (p, tokErr (kindOf c) (runOf (c :: s.drop (p + 1))))) := fun he => by
            rw [← HP.out, hd, fuelS_err c _ p hc he]; rfl
          have HT : Hid (tokErr (kindOf c) (runOf (c :: s.drop (p + 1))) = 0 → Scn.pre (l ++ [⟨kindOf c, runOf (c :: s.drop (p + 1)), p⟩]) (fuelS (s.drop (p + (runOf (c :: s.drop (p + 1))).length)) (p + (runOf (c :: s.drop (p + 1))).length)) = z) := fun he => by
            rw [← HP.out, hd, fuelS_tok c _ p hc he]
            have e : (c :: s.drop (p + 1)).drop (runOf (c :: s.drop (p + 1))).length = s.drop (p + (runOf (c :: s.drop (p + 1))).length) := by rw [← hd, List.drop_drop]
            rw [e]
            cases fuelS (s.drop (p + (runOf (c :: s.drop (p + 1))).length)) (p + (runOf (c :: s.drop (p + 1))).length) <;> simp [Scn.pre]
          generalize tokErr (kindOf c) (runOf (c :: s.drop (p + 1))) = er at *
          generalize kindOf c = kc at *
          generalize runOf (c :: s.drop (p + 1)) = tx at *
          clear hrl2 hd hcd hc HP
          by_cases her : er = 0
          · subst her
            have HT' := hid (HT.out rfl)
            clear HT HE
            go_wp2_with fail
            refine hnext.out.mono ?_
            rintro e w1 ⟨rfl, hB1, _, t2⟩
            obtain ⟨v', h1⟩ := t2 (by trivial)
            go_simp
            go_wp2_with fail
            refine ⟨⟨p + tx.length, v', l ++ [⟨kc, tx, p⟩], by omega, by simp; omega, h1, HT', hB.trans hB1⟩, ?_⟩
            rw [h1.pos, hpos.out]; omega
          · have hz := HE.out her
            subst hz
            go_wp2_with fail
            refine hnext.out.mono ?_
            rintro e w1 ⟨rfl, hB1, t1, _⟩
            have h1 := t1 her
            obtain ⟨d0, d1, d2, dbl, _, _⟩ := h1.cells
            clear h1 t1 hnext
            have HBB := hid (hB.trans hB1)
            clear hB hB1
            go_simp
            go_wp2_with fail
            go_quiet (fail)
            go_wp2_with fail
            go_ret3
            exact ⟨_, rfl, World.ownsRow_nil _ _ _ _, below_dN HBB.out _⟩
      · have hpt' : ¬ p < (str s).size := by rw [HSZ.out]; exact hpt
        have hpe : p = s.length := by omega
        have HZ : Hid (z = .inr (l ++ [⟨3, [], p⟩])) := by
          show _ = _; rw [← HP.out, hpe, List.drop_length]; rfl
        have hs1 := HS.out.size
        have hrow := HS.out.row
        obtain ⟨va, vn, vc, rfl⟩ : ∃ va vn vc, v = .slice va vn vc := by
          obtain ⟨a, cap, h1, _⟩ := owns_at hrow
          exact ⟨_, _, _, h1⟩
        have hsp : ((str s).size : Int) = (p : Int) := by rw [HSZ.out, hpe]
        clear HP hpe
        go_wp2_with (at_builtin; refine wpList_app3 wr rfl _ _ 23 rfl 40 Tryd.underToks Tryd.infoTok w.heap.size _ l hrow ⟨3, [], p⟩ wr.heap.size rfl rfl rfl (by have := HL.out; omega) (by omega) ?_; intro v' w2 hown2 hgr2 hbk)
        go_ret3
        rw [HZ.out]
        exact ⟨_, rfl, hown2, below_grown hB hs1 hgr2 (fun q hq => (hbk q hq).1) (Nat.le_refl _)⟩

end Go.Proofs.YtkeglokokleonaaDoor
