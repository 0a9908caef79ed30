/-
  Contracts of the notation: syntax, ReadInts.
-/
import Derived.Test.YtemmepgfngkgmaaGreatDoorN12
namespace Go.Proofs.YtemmepgfngkgmaaGreatDoor
open Go.RowKit
set_option linter.unusedVariables false
set_option linter.unusedSimpArgs false

/-- All the tokens that are to be read. -/
theorem Tk.all {w : World} {b tb : Nat} {T : TypeId} {rest : List Value} {s : Rs} (h : Tk w b tb T rest s) :
    ∃ off cap, tb < w.heap.size ∧ tb ≠ b ∧ s.ts.length ≤ cap ∧ cap ≤ 9223372036854775807 ∧ w.cell? ⟨b, 0, none⟩ = some (.slice (some ⟨tb, off, none⟩) s.ts.length cap) ∧ ToksR w (.slice (some ⟨tb, off, none⟩) s.ts.length cap) s.ts ∧
      ∀ i, i < s.ts.length → w.cell? ⟨tb, off + i * 3, none⟩ = some (.int .i64 (s.ts[i]?.getD default).kind) ∧ w.cell? ⟨tb, off + i * 3 + 1, none⟩ = some (.string (str (s.ts[i]?.getD default).text)) ∧ w.cell? ⟨tb, off + i * 3 + 2, none⟩ = some (.int .i64 (s.ts[i]?.getD default).pos) := by
  obtain ⟨h0, off, cap, hb, hne, ht⟩ := h
  have ht' := ht
  obtain ⟨a', cap', e, h2, h3, h4, h5⟩ := ht
  injection e with e1 e2 e3
  subst e1 e3
  obtain ⟨b', off', e, hlt, hc⟩ := h5.tok h0.1
  obtain ⟨rfl, rfl⟩ : tb = b' ∧ off = off' := by simpa using e
  have d0 := hb.cell 0
  simp only [List.getElem?_toArray, List.getElem?_cons_zero, List.getElem?_cons_succ] at d0
  exact ⟨off, cap, hlt, hne, h2, h3, d0, ht', hc⟩

set_option maxRecDepth 100000 in
set_option maxHeartbeats 1000000 in
theorem t_syntax (w : World) (b tb : Nat) (T : TypeId) (rest : List Value) (s : Rs) (h : Tk w b tb T rest s) (h3 : s.now.kind ≠ 3) (he : s.e = 0) :
    Calls Tryz.prog 83 #[.pointer (some ⟨b, 0, none⟩)] w fun e w' => e = .returned (.int .i64 (if s.now.text = [45] then (tokAt s.ts 1).pos else s.now.pos)) ∧ Below w.heap.size w w' := by
  have hI := hid (t_is w b tb T rest s h [45])
  have H := hid h
  have hN := hid (fun w' hB => t_now w' b tb T rest s (h.below (w' := w') hB))
  have h2 := h.1.two h3
  have hm : s.is [45] = decide (s.now.text = [45]) := by unfold Rs.is Rs.more; simp [h3, he]
  have q := tok_pos
  rw [hm] at hI
  clear hm h
  by_cases ht : s.now.text = [45]
  · rw [if_pos ht]
    have hd : decide (s.now.text = [45]) = true := by simpa using ht
    rw [hd] at hI
    clear ht hd
    obtain ⟨p, hp⟩ : ∃ p, Hid (p = (tokAt s.ts 1).pos) := ⟨_, rfl⟩
    rw [← hp.out]
    go_enter Tryz.func83, Tryz.ntmps83
    go_wp2_with fail
    refine hI.out.mono ?_
    rintro e w1 ⟨rfl, hB⟩
    obtain ⟨off, cap, hl, hne, hc1, hc2, d0, _, hc⟩ := (H.out.below hB).all
    have hl2 := (H.out.below hB).lt
    obtain ⟨_, _, x2⟩ := hc 1 (by omega)
    have hx : (s.ts[1]?.getD default).pos = p := hp.out.symm
    rw [hx] at x2
    have x3 : w1.cell? ⟨tb, off + 3 + 2, none⟩ = some (.int .i64 p) := x2
    have x4 : w1.cell? ⟨tb, off + 5, none⟩ = some (.int .i64 p) := x2
    have hlen : (1 : Int) < (s.ts.length : Int) := by omega
    clear hc hx
    dsimp only
    go_wp2_with fail
    go_ret
    exact ⟨rfl, hB⟩
  · rw [if_neg ht]
    have hd : decide (s.now.text = [45]) = false := by simpa using ht
    rw [hd] at hI
    clear ht hd
    go_enter Tryz.func83, Tryz.ntmps83
    go_wp2_with fail
    refine hI.out.mono ?_
    rintro e w1 ⟨rfl, hB⟩
    dsimp only
    go_wp2_with fail
    refine (hN.out _ hB).mono ?_
    rintro e w2 ⟨rfl, hB2⟩
    dsimp only
    go_wp2_with fail
    go_ret
    exact ⟨rfl, up hB hB2⟩

theorem results_four {fn : Func} {t u v x : Tmp} (h : fn.results = #[.tmp t, .tmp u, .tmp v, .tmp x]) (tmps : Array Value) (P : Program) (w : World) :
    (results fn tmps).run P w = .ok (.tuple #[tmps.getD t undef, tmps.getD u undef, tmps.getD v undef, tmps.getD x undef]) w := by
  simp [results, h]
def RetInts (w : World) (z : (Int × Int) ⊕ (List UInt8 × List Int)) (e : Ending) (w' : World) : Prop :=
  (match z with
    | .inl x => e = .returned (.tuple #[.string (str []), .slice none 0 0, .int .i64 x.1, .int .i64 x.2])
    | .inr p => ∃ v, e = .returned (.tuple #[.string (str p.1), v, .int .i64 0, .int .i64 0]) ∧ IntsR w' v p.2) ∧ Below w.heap.size w w'
theorem und_ints : Tryz.prog.underlying 50 = some (.slice 3) := by kernel_rfl
theorem info_int : (Tryz.prog.info? 3).map (fun i => (i.zero, i.size, i.bytes)) = some (some (.int .i64 0), 1, 8) := by kernel_rfl
/-- While ints are read. -/
structure RiI (w0 w : World) (rb tb nb : Nat) (ncs : Array Value) (pl : Int) (v : Value) (out : List Int) (ts : List Tok) : Prop where
  own : w.ownsRow w0.heap.size 3 1 v out.length (out.map (Value.int .i64))
  tk : Tk w rb tb 102 [] ⟨ts, 0, pl⟩
  bnb : Blk w nb ncs 134
  g : w0.grownBy w (some rb)
  hrb : rb < w0.heap.size
  htb : tb < w0.heap.size
  hnb : nb < w0.heap.size
  hne : nb ≠ rb

theorem signed_ok {ts : List Tok} (h : TsOk ts) (h3 : (tokAt ts 0).kind ≠ 3) (he : (signedR ts 0).2.2 = 0) : ∃ j : Nat, (signedR ts 0).2.1 = j ∧ 1 ≤ j ∧ j < ts.length ∧ TsOk (ts.drop j) := by
  have h2 := h.two h3
  have hd := h.drop h3
  unfold signedR at he ⊢
  rw [if_neg (by omega)] at he ⊢
  dsimp only at he ⊢
  by_cases hn : (ts[0]?.getD default).kind = 2 ∧ (ts[0]?.getD default).text = [45]
  · simp only [if_pos hn] at he ⊢
    split at he
    · exact absurd he (by decide)
    · rename_i hx
      rw [if_neg hx]
      split at he
      · rename_i hy; exact absurd he hy
      · rename_i hy
        rw [if_neg hy]
        refine ⟨2, rfl, by decide, ?_, ?_⟩
        · have h1 : (ts[1]?.getD default).kind = 1 := by
            by_cases hk : (ts[0 + 1]?.getD default).kind = 1
            · exact hk
            · exact absurd (.inr (.inl hk)) hx
          have := hd.two (show ¬ (((ts.drop 1)[0]?.getD default : Tok).kind = 3) by rw [List.getElem?_drop]; show ¬ (ts[1]?.getD default).kind = 3; rw [h1]; decide)
          simp at this
          omega
        · have h1 : (ts[1]?.getD default).kind = 1 := by
            by_cases hk : (ts[0 + 1]?.getD default).kind = 1
            · exact hk
            · exact absurd (.inr (.inl hk)) hx
          have := hd.drop (show ¬ (((ts.drop 1)[0]?.getD default : Tok).kind = 3) by rw [List.getElem?_drop]; show ¬ (ts[1]?.getD default).kind = 3; rw [h1]; decide)
          rwa [List.drop_drop] at this
  · simp only [if_neg hn] at he ⊢
    split at he
    · exact absurd he (by decide)
    · rename_i hx
      rw [if_neg hx]
      split at he
      · rename_i hy; exact absurd he hy
      · rename_i hy
        rw [if_neg hy]
        exact ⟨1, rfl, by decide, by omega, hd⟩

section
variable {w0 w w' : World} {rb tb nb : Nat} {ncs : Array Value} {pl : Int} {v v' : Value} {out out' : List Int} {ts ts' : List Tok}
theorem RiI.step (h : RiI w0 w rb tb nb ncs pl v out ts) (ht : Tk w' rb tb 102 [] ⟨ts', 0, pl⟩) (hg : w.grownBy w' (some rb)) : RiI w0 w' rb tb nb ncs pl v out ts' :=
  ⟨h.own.kept hg (by
    cases hv : v.ownBlock with
    | none => exact .inl rfl
    | some k => exact .inr (by have := (h.own.lt k hv).1; have := h.hrb; simp; omega)), ht, h.bnb.grown hg (fun e => h.hne (by simpa using e.symm)), grown_trans h.g hg, h.hrb, h.htb, h.hnb, h.hne⟩
theorem RiI.facts (h : RiI w0 w rb tb nb ncs pl v out ts) (j : Nat) (hj : j < ts.length) : ∃ off cap, ¬ cap = j ∧ (ts.length : Int) ≤ (cap : Int) ∧ ts.length ≤ cap ∧ w.cell? ⟨rb, 0, none⟩ = some (.slice (some ⟨tb, off, none⟩) ts.length cap) ∧ rb < w.heap.size ∧ w.frozen? ⟨rb, 0, none⟩ = false := by
  obtain ⟨off, cap, t1, t2, t3, t4, d, _, _⟩ := h.tk.all
  have t3' : ts.length ≤ cap := t3
  exact ⟨off, cap, by omega, by omega, t3', d, h.tk.lt, h.tk.frozen 0⟩
theorem RiI.below (h : RiI w0 w rb tb nb ncs pl v out ts) (hB : Below w.heap.size w w') : RiI w0 w' rb tb nb ncs pl v out ts := h.step (h.tk.below hB) (grown_of hB _)
theorem RiI.row (h : RiI w0 w rb tb nb ncs pl v out ts) (ho : w'.ownsRow w0.heap.size 3 1 v' out'.length (out'.map (Value.int .i64))) (hg : w.grownBy w' v.ownBlock) : RiI w0 w' rb tb nb ncs pl v' out' ts := by
  have hb : ∀ k, v.ownBlock = some k → w0.heap.size ≤ k := fun k hk => (h.own.lt k hk).1
  have hrb := h.hrb
  have htb := h.htb
  have hnb := h.hnb
  refine ⟨ho, h.tk.grownR hg (fun e => by have := hb _ e; omega) (fun e => by have := hb _ e; omega), h.bnb.grown hg (fun e => by have := hb _ e; omega), ⟨h.g.os ▸ hg.os, h.g.tape ▸ hg.tape, h.g.output ▸ hg.output, Nat.le_trans h.g.size hg.size, fun k hk hne => ?_⟩, hrb, htb, hnb, h.hne⟩
  rw [hg.block k (Nat.lt_of_lt_of_le hk h.g.size) (fun e => by have := hb _ e.symm; omega)]
  exact h.g.block k hk hne
end

set_option maxRecDepth 100000 in
set_option maxHeartbeats 4000000 in
theorem n_ReadInts (text : List UInt8) (w : World) (hE : Env w) :
    Calls Tryz.prog 27 #[.string (str text)] w (RetInts w (readIntsR text)) := by
  obtain ⟨Z, hZ⟩ : ∃ Z, Z = readIntsR text := ⟨_, rfl⟩
  rw [← hZ]
  unfold readIntsR at hZ
  have hop := hid (n_open text)
  have hok := hid (opened_ok text)
  generalize opened (scanR text) = s at *
  dsimp only at hZ
  have HZ := hid hZ
  have HE := hid hE
  clear hE hZ
  go_enter Tryz.func27, Tryz.ntmps27
  go_wp2_with fail
  refine (hop.out w).mono ?_
  rintro e w1 ⟨lv, rfl, ht, hB⟩
  obtain ⟨tb, toff, tcap, rfl, htb⟩ := ht.head hok.out.1
  have HTN := hid (Tk.new hok.out ht 102 [])
  have HB1 := hid (hB.alloc hB.size (.cells (Value.slice (some ⟨tb, toff, none⟩) s.ts.length tcap :: Value.int .i64 s.e :: Value.int .i64 s.pl :: []).toArray 102))
  have hrb := hB.size
  have HE1 := hid ((HE.out.atB hrb).below HB1.out)
  clear hop ht hB HE
  dsimp only
  go_upto_region 2 with fail
  (try simp only [List.length_cons, List.length_nil] at HTN HB1 HE1)
  generalize w1.alloc (.cells #[Value.slice (some ⟨tb, toff, none⟩) s.ts.length tcap, Value.int .i64 s.e, Value.int .i64 s.pl] 102) = W1 at *
  generalize w1.heap.size = rb at *
  have q := tok_pos
  go_wp2_with fail
  refine (t_now W1 rb tb _ _ s HTN.out).mono ?_
  rintro e w2 ⟨rfl, hB2⟩
  have HT2 := hid (HTN.out.below hB2)
  have HB2 := hid (up HB1.out hB2)
  have HE2 := hid (HE1.out.below hB2)
  have hrl := HT2.out.lt
  clear HTN HB1 HE1 hB2 htb
  dsimp only
  go_upto_region 3 with fail
  have HT3 := hid (HT2.out.below ((Below.refl _ _).alloc (Nat.le_refl _) (.cells #[Value.int .i64 s.now.kind, .string (str s.now.text), .int .i64 s.now.pos] 134)))
  have HN3 := hid (Blk.new w2 #[Value.int .i64 s.now.kind, .string (str s.now.text), .int .i64 s.now.pos] 134)
  have HB3 := hid (HB2.out.alloc HB2.out.size (.cells #[Value.int .i64 s.now.kind, .string (str s.now.text), .int .i64 s.now.pos] 134))
  have HE3 := hid (HE2.out.below ((Below.refl _ _).alloc (Nat.le_refl _) (.cells #[Value.int .i64 s.now.kind, .string (str s.now.text), .int .i64 s.now.pos] 134)))
  generalize w2.alloc (.cells #[Value.int .i64 s.now.kind, .string (str s.now.text), .int .i64 s.now.pos] 134) = W3 at *
  generalize hnb : w2.heap.size = nb at *
  have HNB : Hid (rb < nb) := hrl
  clear hnb hrl HT2 HB2 HE2
  have n0 := HN3.out.cell 0
  have n1 := HN3.out.cell 1
  have n2 := HN3.out.cell 2
  simp only [List.getElem?_toArray, List.getElem?_cons_zero, List.getElem?_cons_succ] at n0 n1 n2
  have hnl := HN3.out.lt
  have hrl := HT3.out.lt
  have h0w : w.heap.size ≤ W3.heap.size := HB3.out.size
  have h0r : w.heap.size ≤ rb := hrb
  by_cases hk : s.now.kind = 0
  · have hk1 : (s.now.kind != 0) = false := by simpa using hk
    have hz := HZ.out
    rw [if_neg (show ¬ s.now.kind ≠ 0 by omega)] at hz
    have hk3 : s.now.kind ≠ 3 := by omega
    have hf := hid (fun w' hB => t_skip w' rb tb _ _ s (HT3.out.below (w' := w') hB) hk3)
    obtain ⟨off, cap, d1, d2, d3, d4, d5, d6, d7, d8, d9, d10, d11, d12⟩ := HT3.out.cells
    clear d1 d2 d3 d4 d5 d6 d9 d10 d11 d12 hk
    by_cases he : s.e = 0
    · rw [if_neg (show ¬ s.e ≠ 0 by omega)] at hz
      rw [he] at d7
      have HNE : Hid (s.e = 0) := he
      have HK4 := hid hk3
      have HZ3 := hid hz
      have hts := hok.out.two hk3
      have hts2 := hok.out.2.1
      clear HZ he hk3 hz
      go_wp2_with fail
      refine (hf.out _ (Below.refl _ _)).mono ?_
      rintro e w4 ⟨rfl, ht4, hg4⟩
      have ht5 : Tk w4 rb tb 102 [] ⟨s.ts.drop 1, 0, s.pl⟩ := by have h := ht4; unfold Rs.skip at h; rw [HNE.out] at h; exact h
      obtain ⟨_, _, htb, _⟩ := ht5.cells
      have hnb := HNB.out
      have HRI := hid (show RiI w4 w4 rb tb nb #[Value.int .i64 s.now.kind, .string (str s.now.text), .int .i64 s.now.pos] s.pl (.slice none 0 0) [] (s.ts.drop 1) from
        ⟨World.ownsRow_nil _ _ _ _, ht5, HN3.out.grown hg4 (fun e => by simp at e; omega), World.grownBy.refl _ _, ht5.lt, htb, by have := hg4.size; omega, by omega⟩)
      have HB4 := hid (HB3.out.grown hg4 h0w (fun q hq => by simp at hq; omega))
      have HE4 := hid (HE3.out.grown hg4)
      have hok0 := hok.out.drop (HK4.out)
      have hfu : (s.ts.drop 1).length ≤ s.ts.length := by simp
      clear ht4 hg4 ht5 HK4 HT3 HN3 HE3 HB3 hf n0 n1 n2 d7 d8 hok HNE hk1
      have hz := HZ3.out
      clear HZ3
      generalize s.ts.drop 1 = ts0 at *
      generalize s.ts.length = F at *
      generalize s.now.text = wd at *
      generalize s.now.kind = kd at *
      generalize s.now.pos = ps at *
      generalize s.pl = pl at *
      generalize hY : intsG F [] ts0 = Y at *
      have HY := hid hY
      have HZ := hid hz
      clear hY hz
      dsimp only
      go_wp2_with fail
      go_loopg [8] F (fun k v wr => ∃ out ts, Hid (RiI w4 wr rb tb nb #[Value.int .i64 kd, .string (str wd), .int .i64 ps] pl v out ts) ∧ out.length ≤ 256 ∧ ts.length ≤ k ∧ Hid (intsG k out ts = Y))
      case atStart => exact ⟨[], ts0, HRI, by decide, hfu, HY⟩
      case round =>
        clear HRI hfu HY
        obtain ⟨out, ts, HI, hol, htk, HY⟩ := hrel
        have HOL := hid hol
        have HTK := hid htk
        clear hol htk
        go_wp2_with fail
        refine (t_more wr rb tb _ _ _ HI.out.tk).mono ?_
        rintro e w5 ⟨rfl, hB5⟩
        have HI5 := hid (HI.out.below hB5)
        have hlw := HI5.out.tk.1.1
        have htl := HTK.out
        clear hB5 HI
        obtain ⟨k', HGK⟩ : ∃ k', Hid (gk = k' + 1) := ⟨gk - 1, by show gk = _; dsimp only at hlw; omega⟩
        have hy := HY.out
        rw [HGK.out] at hy
        unfold intsG at hy
        clear HY
        cases hm : (⟨ts, 0, pl⟩ : Rs).more with
        | false =>
          have hk3 : (tokAt ts 0).kind = 3 := by show (ts[0]?.getD default).kind = 3; unfold Rs.more Rs.now at hm; simpa using hm
          rw [if_pos hk3] at hy
          have HY := hid hy
          have n1 := HI5.out.bnb.cell 1
          simp only [List.getElem?_toArray, List.getElem?_cons_zero, List.getElem?_cons_succ] at n1
          have hnl := HI5.out.bnb.lt
          have hg := HI5.out.g
          have HB5 : Hid (Below w.heap.size w w5) := HB4.out.grown hg HB4.out.size (fun q hq => by simp at hq; omega)
          have hol := HOL.out
          clear hy hm hk3 htl hlw hg
          dsimp only
          go_wp2_with fail
          refine bodyPost_ret (results_four rfl _ _ _) rfl ?_
          have hz2 := HZ.out
          rw [← HY.out] at hz2
          rw [hz2]
          exact ⟨⟨_, rfl, owns_ints HI5.out.own (show out.length * 8 ≤ 140737488355328 by omega)⟩, HB5.out⟩
        | true =>
          have hk3 : (tokAt ts 0).kind ≠ 3 := by show ¬ (ts[0]?.getD default).kind = 3; unfold Rs.more Rs.now at hm; simpa using hm
          rw [if_neg hk3] at hy
          obtain ⟨SP, hSP⟩ : ∃ SP, Hid (SP = if (tokAt ts 0).text = [45] then (tokAt ts 1).pos else (tokAt ts 0).pos) := ⟨_, rfl⟩
          have hsy : Hid (∀ w', Below w5.heap.size w5 w' → Calls Tryz.prog 83 #[.pointer (some ⟨rb, 0, none⟩)] w' fun e w'' => e = .returned (.int .i64 SP) ∧ Below w'.heap.size w' w'') := by
            intro w' hB
            rw [hSP.out]
            exact t_syntax w' rb tb _ _ ⟨ts, 0, pl⟩ (HI5.out.tk.below (w' := w') hB) hk3 rfl
          have hsk := hid (signed_ok HI5.out.tk.1 hk3)
          have h2l := HI5.out.tk.1.two hk3
          have htx := HI5.out.tk.1
          have HY := hid hy
          clear hy hm
          dsimp only
          have q := tok_pos
          go_wp2_with fail
          refine (t_now w5 rb tb _ _ _ HI5.out.tk).mono ?_
          rintro e w6 ⟨rfl, hB6⟩
          have HI6 := hid (HI5.out.below hB6)
          have hsy := hid (fun w' hB => hsy.out w' (up hB6 hB))
          clear hB6 HI5
          obtain ⟨off, cap, e1, e2, e3, e4, d0, hts, hc⟩ := HI6.out.tk.all
          have hrl := HI6.out.tk.lt
          have HEv := hid ((HE4.out.grown HI6.out.g).1)
          have hsg := lx_Signed ts 0 _ w6 HEv.out hts (by have := hlw; (try dsimp only at this); omega) htx.2.1 (fun k => TsOk.text htx k)
          have HSG := hid hsg
          have HD0 := hid d0
          clear hsg hc e1 e2
          generalize hP : (Rs.now ⟨ts, 0, pl⟩).pos = P at *
          have HP : Hid ((tokAt ts 0).pos = P) := hP
          clear hP
          go_wp2_with fail
          refine HSG.out.mono ?_
          rintro e w7 ⟨rfl, hB7⟩
          have HI7 := hid (HI6.out.below hB7)
          have hsy := hid (fun w' hB => hsy.out w' (up hB7 hB))
          have HD7 := hid ((hB7.cell (p := ⟨rb, 0, none⟩) HI6.out.tk.lt).trans HD0.out)
          clear hB7 HI6 HD0 HSG HEv d0
          generalize signedR ts 0 = r at *
          obtain ⟨sn, sj, se⟩ := r
          (try dsimp only at HY)
          (try dsimp only at hsk)
          dsimp only
          have HB7 : Hid (Below w.heap.size w w7) := HB4.out.grown HI7.out.g HB4.out.size (fun q hq => by simp at hq; omega)
          by_cases h4 : se = 4
          · subst h4
            have HY2 : Hid (Sum.inl (SP, (4 : Int)) = Y) := by have h := HY.out; rw [if_pos rfl, ← hSP.out] at h; exact h
            clear HY hsk
            go_wp2_with fail
            refine (hsy.out _ (Below.refl _ _)).mono ?_
            rintro e w8 ⟨rfl, hB8⟩
            dsimp only
            go_wp2_with fail
            refine bodyPost_ret (results_four rfl _ _ _) rfl ?_
            have hz2 := HZ.out
            rw [← HY2.out] at hz2
            rw [hz2]
            exact ⟨rfl, up HB7.out hB8⟩
          · have h4b : (se == 4) = false := by simpa using h4
            have hy2 := HY.out
            rw [if_neg h4] at hy2
            clear HY hsy
            by_cases h5 : se = 0
            · obtain ⟨j, hj, hj1, hj2, hj3⟩ := hsk.out h5
              subst h5
              subst hj
              have hjI : (j : Int) ≤ (ts.length : Int) := by omega
              have hj0 : (0 : Int) ≤ (j : Int) := by omega
              cases hcb : chipB sn with
              | false =>
                have HY2 : Hid (Sum.inl (P, (2 : Int)) = Y) := by rw [if_pos (.inr hcb), HP.out] at hy2; exact hy2
                clear hy2 hsk
                go_wp2_with fail
                refine (n_chips sn w7).mono ?_
                rintro e w8 ⟨rfl, rfl⟩
                rw [hcb]
                dsimp only
                go_wp2_with fail
                refine bodyPost_ret (results_four rfl _ _ _) rfl ?_
                have hz2 := HZ.out
                rw [← HY2.out] at hz2
                rw [hz2]
                exact ⟨rfl, HB7.out⟩
              | true =>
                rw [if_neg (by simp [hcb])] at hy2
                have HOW := HI7.out.own
                obtain ⟨av, cv, ev, _⟩ := owns_at HOW
                subst ev
                by_cases h256 : out.length = 256
                · have HY2 : Hid (Sum.inl (P, (5 : Int)) = Y) := by rw [if_pos h256, HP.out] at hy2; exact hy2
                  clear hy2 hsk
                  rw [h256] at HOW
                  go_wp2_with fail
                  refine (n_chips sn w7).mono ?_
                  rintro e w8 ⟨rfl, rfl⟩
                  rw [hcb]
                  dsimp only
                  have hlI : (out.length : Int) = 256 := by omega
                  rw [h256]
                  go_wp2_with fail
                  refine bodyPost_ret (results_four rfl _ _ _) rfl ?_
                  have hz2 := HZ.out
                  rw [← HY2.out] at hz2
                  rw [hz2]
                  exact ⟨rfl, HB7.out⟩
                · rw [if_neg h256] at hy2
                  have HY := hid hy2
                  clear hy2 hsk
                  have hbs : w4.heap.size ≤ w7.heap.size := HI7.out.g.size
                  have hol9 : out.length ≤ 1000000000000 := by have := HOL.out; omega
                  go_wp2_with fail
                  refine (n_chips sn w7).mono ?_
                  rintro e w8 ⟨rfl, rfl⟩
                  rw [hcb]
                  dsimp only
                  have hlI : ¬ (out.length : Int) = 256 := by omega
                  go_wp2_with (at_builtin; go_loud (refine wpList_app1 w7 rfl _ _ 50 rfl 3 und_ints info_int w4.heap.size _ out HOW sn w7.heap.size rfl rfl rfl hol9 hbs ?_; intro v' w9 hown9 hgr9 hbk; have HI9 := hid (HI7.out.row hown9 hgr9); obtain ⟨off9, cap9, hcj, hnc, hnc', d9, hrl9, f9⟩ := HI9.out.facts j hj2; clear hown9 hgr9 hbk))
                  go_roundg (gk - 1)
                  case measure => have := HGK.out; omega
                  case rel =>
                    refine ⟨out ++ [sn], ts.drop j, HI9.out.step (HI9.out.tk.set0 d9 j hj3) (grown_set _ _ _ _), by rw [List.length_append]; have := HOL.out; simp; omega, by rw [List.length_drop]; have := HGK.out; omega, ?_⟩
                    show intsG _ _ _ = _
                    rw [HGK.out, Nat.add_sub_cancel]
                    exact HY.out
            · have HY2 : Hid (Sum.inl (P, (2 : Int)) = Y) := by rw [if_pos (.inl h5), HP.out] at hy2; exact hy2
              have h5b : (se != 0) = true := by simpa using h5
              clear hy2 hsk h5 h4
              go_wp2_with fail
              refine bodyPost_ret (results_four rfl _ _ _) rfl ?_
              have hz2 := HZ.out
              rw [← HY2.out] at hz2
              rw [hz2]
              exact ⟨rfl, HB7.out⟩
    · have HZ2 : Hid (Z = .inl (s.pl, s.e)) := by show Z = _; rw [if_pos he] at hz; exact hz
      have he1 : (s.e != 0) = true := by simpa using he
      clear HZ hz he hk3 hf
      go_wp2_with fail
      go_quiet (fail)
      go_wp2_with fail
      refine bodyPost_ret (results_four rfl _ _ _) rfl ?_
      rw [HZ2.out]
      exact ⟨rfl, below_dN HB3.out _⟩
  · have hk1 : (s.now.kind != 0) = true := by simpa using hk
    have HE4 := hid (fail_e (s := s) (p := s.now.pos) (show (4 : Int) ≠ 0 by decide))
    have HZ2 : Hid (Z = .inl ((s.fail 4 s.now.pos).pl, (s.fail 4 s.now.pos).e)) := by
      have h := HZ.out
      rw [if_pos hk, if_pos (fun e => HE4.out e)] at h
      exact h
    have hf := hid (fun w' hB => t_fail w' rb tb _ _ s (HT3.out.below (w' := w') hB) 4 s.now.pos)
    clear HZ hk
    go_wp2_with fail
    refine (hf.out W3 (Below.refl _ _)).mono ?_
    rintro e w4 ⟨rfl, ht4, hg4⟩
    have HB4 := hid (HB3.out.grown hg4 h0w (fun q hq => by simp at hq; omega))
    obtain ⟨off, cap, d1, d2, d3, d4, d5, d6, d7, d8, d9, d10, d11, d12⟩ := ht4.cells
    have hrl4 := ht4.lt
    have he1 : ((s.fail 4 s.now.pos).e != 0) = true := by simpa using (fun e => HE4.out e)
    generalize s.fail 4 s.now.pos = s4 at *
    clear d1 d2 d3 d4 d5 d6 d9 d10 d11 d12 hf n0 n1 n2 HE4
    dsimp only
    go_wp2_with fail
    go_quiet (fail)
    go_wp2_with fail
    refine bodyPost_ret (results_four rfl _ _ _) rfl ?_
    rw [HZ2.out]
    exact ⟨rfl, below_dN HB4.out _⟩

end Go.Proofs.YtemmepgfngkgmaaGreatDoor
