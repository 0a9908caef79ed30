/-
  The reference: ReadInts.
-/
import Derived.Test.YtemmepgfngkgmaaGreatDoorN36
namespace Go.Proofs.YtemmepgfngkgmaaGreatDoor
open Go.RowKit
set_option linter.unusedVariables false
set_option linter.unusedSimpArgs false

/-- While ints are read. -/
structure RjI (w0 w : World) (b tb : Nat) (L : List Tok) (pl : Int) (v : Value) (out : List Int) (ts : List Tok) : Prop where
  own : w.ownsRow w0.heap.size 3 1 v out.length (out.map (Value.int .i64))
  tk : Rk w b tb L ⟨ts, 0, pl⟩
  g : w0.grownBy w (some b)
  hb : b < w0.heap.size
  htb : tb < w0.heap.size
section
variable {w0 w w' : World} {b tb : Nat} {L : List Tok} {pl : Int} {v v' : Value} {out out' : List Int} {ts ts' : List Tok}
theorem RjI.step (h : RjI w0 w b tb L pl v out ts) (ht : Rk w' b tb L ⟨ts', 0, pl⟩) (hg : w.grownBy w' (some b)) : RjI w0 w' b tb L pl v out ts' :=
  ⟨kept_row h.own hg (hnk' h.own h.hb), ht, grown_trans h.g hg, h.hb, h.htb⟩
where hnk' {w : World} {base b : Nat} {e : TypeId} {size : Nat} {v : Value} {n : Nat} {xs : List Value} (h : w.ownsRow base e size v n xs) (hb : b < base) : ∀ k, v.ownBlock = some k → some b ≠ some k := hnk b h hb
theorem RjI.below (h : RjI w0 w b tb L pl v out ts) (hB : Below w.heap.size w w') : RjI w0 w' b tb L pl v out ts := h.step (h.tk.below hB) (grown_of hB _)
theorem RjI.row (h : RjI w0 w b tb L pl v out ts) (ho : w'.ownsRow w0.heap.size 3 1 v' out'.length (out'.map (Value.int .i64))) (hg : w.grownBy w' v.ownBlock) : RjI w0 w' b tb L pl v' out' ts := by
  have hb : ∀ k, v.ownBlock = some k → w0.heap.size ≤ k := fun k hk => (h.own.lt k hk).1
  have h1 := h.hb
  have h2 := h.htb
  exact ⟨ho, h.tk.grownR hg (fun e => by have := hb _ e; omega) (fun e => by have := hb _ e; omega), kept_g h.g hg hb, h1, h2⟩
end
/-- The reader goes on at a token further on. -/
theorem Rk.jump {w : World} {b tb j k : Nat} {L ts : List Tok} {pl : Int} (h : Rk w b tb L ⟨ts, 0, pl⟩) (hc : w.cell? ⟨b, 1, none⟩ = some (.int .i64 ((j : Nat) : Int))) (hk : TsOk (ts.drop k)) :
    Rk (w.setCell ⟨b, 1, none⟩ (.int .i64 ((k : Int) + j))) b tb L ⟨ts.drop k, 0, pl⟩ := by
  obtain ⟨h0, h1, off, cap, j', e, hb, hne, ht⟩ := h
  have d1 := hb.cell 1
  simp only [List.getElem?_toArray, List.getElem?_cons_zero, List.getElem?_cons_succ] at d1
  rw [hc] at d1
  have e3 : (j : Int) = (j' : Int) := by simpa using d1
  obtain rfl : j = j' := by omega
  refine ⟨hk, h1, off, cap, j + k, ?_, ?_, hne, ht.grown (grown_set _ _ _ _) (fun x hx => by cases hx; exact hne)⟩
  · show ts.drop k = _
    dsimp only at e
    rw [e, List.drop_drop]
  · have := hb.set 1 (.int .i64 ((k : Int) + j))
    have e2 : ((j + k : Nat) : Int) = (k : Int) + j := by omega
    rw [e2]
    simpa only [List.setIfInBounds_toArray, List.set_cons_zero, List.set_cons_succ] using this

set_option maxRecDepth 100000 in
set_option maxHeartbeats 8000000 in
theorem r9_ReadInts (text : List UInt8) (w : World) :
    Calls Tryz.prog 28 #[.string (str text)] w (RetInts w (readIntsR text)) := by
  obtain ⟨Z, hZ⟩ : ∃ Z, Z = readIntsR text := ⟨_, rfl⟩
  rw [← hZ]
  unfold readIntsR at hZ
  have hop := hid (q_open text)
  have hok := hid (opened_ok text)
  generalize opened (scanR text) = s at *
  dsimp only at hZ
  have HZ := hid hZ
  clear hZ
  have q0 := tok_kind
  have q1 := tok_text
  have q2 := tok_pos
  go_enter Tryz.func28, Tryz.ntmps28
  go_wp2_with fail
  refine (hop.out w).mono ?_
  rintro e w1 ⟨lv, rfl, ht, hB⟩
  obtain ⟨tb, htb1, htb2, hR⟩ := Rk.new hok.out ht
  obtain ⟨la, lcap, rfl, _⟩ := ht
  have HR1 := hid hR
  have HB1 := hid (hB.alloc hB.size (.cells #[.slice la s.ts.length lcap, .int .i64 0, .int .i64 s.e, .int .i64 s.pl] 107))
  have HTB := hid htb2
  have hB1s := hid hB.size
  clear hR hop hB htb1 htb2
  dsimp only
  go_upto_region 2 with fail
  have HWB : Hid (w.heap.size ≤ w1.heap.size) := hB1s.out
  generalize w1.alloc (.cells #[.slice la s.ts.length lcap, .int .i64 0, .int .i64 s.e, .int .i64 s.pl] 107) = W1 at *
  generalize w1.heap.size = b at *
  have d2 : W1.cell? ⟨b, 2, none⟩ = some (.int .i64 s.e) := by obtain ⟨_, _, _, _, _, _, _, _, _, _, _, _, d2, _⟩ := HR1.out.cells; exact d2
  have hbl := HR1.out.lt
  by_cases he : s.e = 0
  case neg =>
    have hz := HZ.out
    have e1 : (if s.now.kind ≠ 0 then s.fail 4 s.now.pos else s) = s := by
      split
      · unfold Rs.fail; rw [if_neg he]
      · rfl
    rw [e1, if_pos he] at hz
    have HZ := hid hz
    have he1 : (s.e != 0) = true := by simpa using he
    have he2 : (s.e == 0) = false := by simpa using he
    have d3 : W1.cell? ⟨b, 3, none⟩ = some (.int .i64 s.pl) := by obtain ⟨_, _, _, _, _, _, _, _, _, _, _, _, _, d3, _⟩ := HR1.out.cells; exact d3
    clear hz e1 he
    go_wp2_with fail
    go_quiet (fail)
    go_wp2_with fail
    refine bodyPost_ret (results_four rfl _ _ _) rfl ?_
    rw [HZ.out]
    exact ⟨rfl, below_dN HB1.out _⟩
  rw [he] at d2
  by_cases hk : s.now.kind = 0
  case neg =>
    have HE4 := hid (fail_e (s := s) (p := s.now.pos) (show (4 : Int) ≠ 0 by decide))
    have HZ2 : Hid (Z = .inl ((s.fail 4 s.now.pos).pl, (s.fail 4 s.now.pos).e)) := by
      have h := HZ.out
      rw [if_pos hk, if_pos (fun e => HE4.out e)] at h
      exact h
    have hk1 : (s.now.kind != 0) = true := by simpa using hk
    have HN := hid (fun w h => q_now w b tb s.ts s h)
    generalize hkk : s.now.kind = kk at *
    clear HZ hk hkk he
    go_wp2_with fail
    refine (HN.out W1 HR1.out).mono ?_
    rintro e w2 ⟨rfl, hB2⟩
    have HR2 := hid (HR1.out.below hB2)
    have HB2 := hid (up HB1.out hB2)
    clear hB2 HR1 HB1 d2 hbl
    dsimp only
    go_wp2_with fail
    refine (HN.out w2 HR2.out).mono ?_
    rintro e w3 ⟨rfl, hB3⟩
    have HR3 := hid (HR2.out.below hB3)
    have HB3 := hid (up HB2.out hB3)
    clear hB3 HR2 HB2
    dsimp only
    go_wp2_with fail
    refine (q_fail w3 b tb s.ts s HR3.out 4 s.now.pos).mono ?_
    rintro e w4 ⟨rfl, hR4, hg4⟩
    have HB4 : Hid (Below w.heap.size w w4) := HB3.out.grown hg4 HB3.out.size (fun q hq => by have := HWB.out; simp at hq; omega)
    obtain ⟨_, _, _, _, _, _, _, _, _, _, _, _, d2, d3, _⟩ := hR4.cells
    have hbl := hR4.lt
    have he1 : ((s.fail 4 s.now.pos).e != 0) = true := by simpa using (fun e => HE4.out e)
    generalize s.fail 4 s.now.pos = s4 at *
    clear hR4 hg4 HR3 HB3 HE4
    dsimp only
    go_wp2_with fail
    go_quiet (fail)
    go_wp2_with fail
    refine bodyPost_ret (results_four rfl _ _ _) rfl ?_
    rw [HZ2.out]
    exact ⟨rfl, below_dN HB4.out _⟩
  have HZ3 := HZ.out
  rw [if_neg (show ¬ s.now.kind ≠ 0 by omega), if_neg (show ¬ s.e ≠ 0 by omega)] at HZ3
  have HZ := hid HZ3
  have hk3 : s.now.kind ≠ 3 := by omega
  have HK3 := hid hk3
  have HN := hid (fun w h => q_now w b tb s.ts s h)
  rw [hk] at HN
  clear HZ3 hk3
  go_wp2_with fail
  refine (HN.out W1 HR1.out).mono ?_
  rintro e w2 ⟨rfl, hB2⟩
  have HR2 := hid (HR1.out.below hB2)
  have HB2 := hid (up HB1.out hB2)
  have d2 : w2.cell? ⟨b, 2, none⟩ = some (.int .i64 0) := (hB2.cell (p := ⟨b, 2, none⟩) hbl).trans d2
  have hbl := HR2.out.lt
  clear hB2 HR1 HB1
  dsimp only
  go_wp2_with fail
  refine (HN.out w2 HR2.out).mono ?_
  rintro e w3 ⟨rfl, hB3⟩
  have HR3 := hid (HR2.out.below hB3)
  have HB3 := hid (up HB2.out hB3)
  obtain ⟨j0, hj0, d1, hadv⟩ := HR3.out.step1 HK3.out
  have HADV := hid hadv
  have f1 := HR3.out.frozen 1
  have hbl := HR3.out.lt
  have wj : IntKind.i64.wrap ((j0 : Int) + 1) = (j0 : Int) + 1 := IntWalk.i64_in _ (by omega)
  have HOK2 : Hid (TsOk (s.ts.drop 1)) := hok.out.drop HK3.out
  clear hB3 HR2 HB2 d2 hadv
  dsimp only
  go_wp2_with fail
  have HB4 := hid (HB3.out.setCell (p := ⟨b, 1, none⟩) HWB.out (.int .i64 ((j0 : Int) + 1)))
  have HR4 : Hid (Rk (w3.setCell ⟨b, 1, none⟩ (.int .i64 ((j0 : Int) + 1))) b tb s.ts ⟨s.ts.drop 1, 0, s.pl⟩) := by
    have h := HADV.out
    unfold Rs.skip at h
    rw [he] at h
    exact h
  generalize w3.setCell ⟨b, 1, none⟩ (.int .i64 ((j0 : Int) + 1)) = W4 at *
  have HI0 : Hid (RjI W4 W4 b tb s.ts s.pl (.slice none 0 0) [] (s.ts.drop 1)) := by
    obtain ⟨_, _, _, h1, _⟩ := HR4.out.cells
    exact ⟨World.ownsRow_nil _ _ _ _, HR4.out, World.grownBy.refl _ _, HR4.out.lt, h1⟩
  have hfu : (s.ts.drop 1).length ≤ s.ts.length := by simp
  have HL4 := hid hok.out.2.1
  have HTX := hid (fun k => TsOk.text hok.out k)
  clear HADV d1 f1 hbl wj HR4 HR3 HB3 HN hj0 hok hk he HK3
  generalize s.ts.drop 1 = ts0 at *
  generalize s.ts = L at *
  generalize s.now.text = wd at *
  generalize s.pl = pl at *
  obtain ⟨F, hF⟩ : ∃ F, F = L.length := ⟨_, rfl⟩
  rw [← hF] at HZ hfu
  generalize hY : intsG F [] ts0 = Y at *
  have HY := hid hY
  clear hY hF
  (try dsimp only)
  go_wp2_with fail
  go_loopg [8] F (fun k v wr => ∃ out ts, Hid (RjI W4 wr b tb L pl v out ts) ∧ out.length ≤ 256 ∧ ts.length ≤ k ∧ Hid (intsG k out ts = Y))
  case atStart => exact ⟨[], ts0, HI0, by decide, hfu, HY⟩
  case round =>
    clear HI0 hfu HY
    obtain ⟨out, ts, HI, hol, htk, HY⟩ := hrel
    have HOL := hid hol
    have HTK := hid htk
    clear hol htk
    go_wp2_with fail
    refine (q_done wr b tb L _ HI.out.tk).mono ?_
    rintro e w5 ⟨rfl, hB5⟩
    have HI5 := hid (HI.out.below hB5)
    have hlw := HI5.out.tk.1.1
    have htl := HTK.out
    clear hB5 HI
    obtain ⟨k', HGK⟩ : ∃ k', Hid (gk = k' + 1) := ⟨gk - 1, by show gk = _; dsimp only at hlw; omega⟩
    have hy := HY.out
    rw [HGK.out] at hy
    unfold intsG at hy
    clear HY
    cases hm : (⟨ts, 0, pl⟩ : Rs).more with
    | false =>
      have hk3 : (tokAt ts 0).kind = 3 := by show (ts[0]?.getD default).kind = 3; unfold Rs.more Rs.now at hm; simpa using hm
      rw [if_pos hk3] at hy
      have HY := hid hy
      have hg := HI5.out.g
      have HB5 : Hid (Below w.heap.size w w5) := HB4.out.grown hg HB4.out.size (fun q hq => by have := HWB.out; simp at hq; omega)
      have hol := HOL.out
      clear hy hm hk3 htl hlw hg
      dsimp only
      go_wp2_with fail
      refine bodyPost_ret (results_four rfl _ _ _) rfl ?_
      have hz2 := HZ.out
      rw [← HY.out] at hz2
      rw [hz2]
      exact ⟨⟨_, rfl, owns_ints HI5.out.own (show out.length * 8 ≤ 140737488355328 by omega)⟩, HB5.out⟩
    | true =>
      have hk3 : (tokAt ts 0).kind ≠ 3 := by show ¬ (ts[0]?.getD default).kind = 3; unfold Rs.more Rs.now at hm; simpa using hm
      rw [if_neg hk3] at hy
      have hsk := hid (signed_ok HI5.out.tk.1 hk3)
      have hnk : (Rs.now ⟨ts, 0, pl⟩).kind ≠ 3 := hk3
      have HNK := hid hnk
      have HY := hid hy
      clear hy hm hnk
      dsimp only
      go_wp2_with fail
      refine (q_now w5 b tb L _ HI5.out.tk).mono ?_
      rintro e w6 ⟨rfl, hB6⟩
      have HI6 := hid (HI5.out.below hB6)
      clear hB6 HI5
      have htk6 := HI6.out.tk
      obtain ⟨hx0, hx1, off, cap, j, hxe, hxb, hxn, hxt⟩ := htk6
      have d0 := hxb.cell 0
      have d1 := hxb.cell 1
      simp only [List.getElem?_toArray, List.getElem?_cons_zero, List.getElem?_cons_succ] at d0 d1
      have hbl := hxb.lt
      have hjl : j < L.length := by have h := hx0.1; dsimp only at hxe h; rw [hxe, List.length_drop] at h; omega
      have HSG := hid (r_Signed L j _ w6 hxt hjl hx1.2.1 (fun k => TsOk.text hx1 k))
      obtain ⟨s1, s2, s3⟩ := signedR_drop L j hjl
      have hxe2 : ts = L.drop j := hxe
      rw [← hxe2] at s1 s2 s3
      rw [s1, s2] at HSG
      have HS3 := hid s3
      have HD1 := hid d1
      have HJL := hid hjl
      clear hxb hxt hx0 hx1 hxe hxn s1 s2 s3 hxe2 hk3
      generalize hP : (Rs.now ⟨ts, 0, pl⟩).pos = P at *
      have HP : Hid ((tokAt ts 0).pos = P) := hP
      clear hP
      generalize signedR ts 0 = r at *
      obtain ⟨sn, sj, se⟩ := r
      have HY : Hid ((if se = 4 then Sum.inl (if (tokAt ts 0).text = [45] then (tokAt ts 1).pos else (tokAt ts 0).pos, 4) else if se ≠ 0 ∨ chipB sn = false then Sum.inl ((tokAt ts 0).pos, 2) else if out.length = 256 then Sum.inl ((tokAt ts 0).pos, 5) else intsG k' (out ++ [sn]) (ts.drop sj.toNat)) = Y) := HY
      have hsk : Hid (se = 0 → ∃ j : Nat, sj = j ∧ 1 ≤ j ∧ j < ts.length ∧ TsOk (ts.drop j)) := hsk
      have HS3 : Hid (se = 0 → (signedR L j).2.1 = sj + j) := HS3
      have HSG : Hid (Calls Tryz.prog 84 #[.slice (some ⟨tb, off, none⟩) L.length cap, .int .i64 j] w6 fun e w' => e = .returned (.tuple #[.int .i64 sn, .int .i64 (signedR L j).2.1, .int .i64 se]) ∧ w' = w6) := HSG
      generalize (signedR L j).2.1 = nx at *
      clear hjl
      go_wp2_with fail
      refine HSG.out.mono ?_
      rintro e w7 ⟨rfl, rfl⟩
      dsimp only
      have HB7 : Hid (Below w.heap.size w w7) := HB4.out.grown HI6.out.g HB4.out.size (fun q hq => by have := HWB.out; simp at hq; omega)
      by_cases h4 : se = 4
      · subst h4
        have hV := HI6.out.tk.value
        obtain ⟨V, hld, v0, v1, v2, v3, rfl, e0, e1, e2, e3, hnew⟩ := hV
        obtain rfl := Option.some.inj (e0.symm.trans d0)
        obtain rfl := Option.some.inj (e1.symm.trans d1)
        clear e0 e1
        have hsy := hid (q_syntax w7 tb L ⟨ts, 0, pl⟩ _ _ v2 v3 (hnew w7 (Below.refl _ _)) HNK.out rfl)
        obtain ⟨SP, hSP⟩ : ∃ SP, Hid (SP = if (tokAt ts 0).text = [45] then (tokAt ts 1).pos else (tokAt ts 0).pos) := ⟨_, rfl⟩
        have hsy2 : Hid (Calls Tryz.prog 85 #[.agg #[.slice (some ⟨tb, off, none⟩) L.length cap, .int .i64 ((j : Nat) : Int), v2, v3]] w7 fun e w' => e = .returned (.int .i64 SP) ∧ Below w7.heap.size w7 w') := by
          rw [hSP.out]; exact hsy.out
        have HY2 : Hid (Sum.inl (SP, (4 : Int)) = Y) := by have h := HY.out; rw [if_pos rfl, ← hSP.out] at h; exact h
        clear HY hsk hsy hnew hSP
        go_wp2_with fail
        refine hsy2.out.mono ?_
        rintro e w8 ⟨rfl, hB8⟩
        dsimp only
        go_wp2_with fail
        refine bodyPost_ret (results_four rfl _ _ _) rfl ?_
        have hz2 := HZ.out
        rw [← HY2.out] at hz2
        rw [hz2]
        exact ⟨rfl, up HB7.out hB8⟩
      · have h4b : (se == 4) = false := by simpa using h4
        have hy2 := HY.out
        rw [if_neg h4] at hy2
        clear HY
        by_cases h5 : se = 0
        case neg =>
          have HY2 : Hid (Sum.inl (P, (2 : Int)) = Y) := by rw [if_pos (.inl h5), HP.out] at hy2; exact hy2
          have h5b : (se != 0) = true := by simpa using h5
          clear hy2 hsk h5 h4
          go_wp2_with fail
          refine bodyPost_ret (results_four rfl _ _ _) rfl ?_
          have hz2 := HZ.out
          rw [← HY2.out] at hz2
          rw [hz2]
          exact ⟨rfl, HB7.out⟩
        obtain ⟨jj, hj, hj1, hj2, hj3⟩ := hsk.out h5
        have hnx := HS3.out h5
        subst h5
        subst hj
        have hx3 : Hid (chipB sn = (decide (-1048576 ≤ sn) && decide (sn ≤ 1048576))) := rfl
        have hout : Hid (chipB sn = false → Sum.inl (P, (2 : Int)) = Y) := fun hcb => by rw [if_pos (.inr hcb), HP.out] at hy2; exact hy2
        by_cases hxa : sn < -1048576
        · have HY2 := hid (hout.out (by rw [hx3.out]; simp; omega))
          clear hy2 hsk hx3 hout
          go_wp2_with fail
          refine bodyPost_ret (results_four rfl _ _ _) rfl ?_
          have hz2 := HZ.out
          rw [← HY2.out] at hz2
          rw [hz2]
          exact ⟨rfl, HB7.out⟩
        by_cases hxb : 1048576 < sn
        · have HY2 := hid (hout.out (by rw [hx3.out]; simp; omega))
          clear hy2 hsk hx3 hout
          go_wp2_with fail
          refine bodyPost_ret (results_four rfl _ _ _) rfl ?_
          have hz2 := HZ.out
          rw [← HY2.out] at hz2
          rw [hz2]
          exact ⟨rfl, HB7.out⟩
        have hcb : chipB sn = true := by rw [hx3.out]; simp; omega
        rw [if_neg (by simp [hcb])] at hy2
        have HOW := HI6.out.own
        obtain ⟨av, cv, ev, _⟩ := owns_at HOW
        subst ev
        by_cases h256 : out.length = 256
        · have HY2 : Hid (Sum.inl (P, (5 : Int)) = Y) := by rw [if_pos h256, HP.out] at hy2; exact hy2
          clear hy2 hsk hx3 hout hcb
          rw [h256] at HOW
          have hlI : (out.length : Int) = 256 := by omega
          rw [h256]
          go_wp2_with fail
          refine bodyPost_ret (results_four rfl _ _ _) rfl ?_
          have hz2 := HZ.out
          rw [← HY2.out] at hz2
          rw [hz2]
          exact ⟨rfl, HB7.out⟩
        · rw [if_neg h256] at hy2
          have HY := hid hy2
          clear hy2 hsk hx3 hout hcb
          have hbs : W4.heap.size ≤ w7.heap.size := HI6.out.g.size
          have hol9 : out.length ≤ 1000000000000 := by have := HOL.out; omega
          have hlI : ¬ (out.length : Int) = 256 := by omega
          have hnx2 : nx = (jj : Int) + j := hnx
          subst hnx2
          clear hnx
          go_wp2_with (at_builtin; go_must (refine wpList_app1 w7 rfl _ _ 50 rfl 3 und_ints info_int W4.heap.size _ out HOW sn w7.heap.size rfl rfl rfl hol9 hbs ?_; intro v' w9 hown9 hgr9 hbk; have HI9 := hid (HI6.out.row hown9 hgr9); have d9 : w9.cell? ⟨b, 1, none⟩ = some (.int .i64 ((j : Nat) : Int)) := (World.cell?_of_block (hgr9.block b HI6.out.tk.lt (fun e => absurd (hbk b e.symm) (by have := HI6.out.hb; omega)))).trans HD1.out; have hrl9 := HI9.out.tk.lt; have f9 := HI9.out.tk.frozen 1; clear hown9 hgr9 hbk))
          go_roundg (gk - 1)
          case measure => have := HGK.out; omega
          case rel =>
            refine ⟨out ++ [sn], ts.drop jj, HI9.out.step (Rk.jump HI9.out.tk d9 hj3) (grown_set _ _ _ _), by rw [List.length_append]; have := HOL.out; simp; omega, by rw [List.length_drop]; have := HGK.out; omega, ?_⟩
            show intsG _ _ _ = _
            rw [HGK.out, Nat.add_sub_cancel]
            exact HY.out

end Go.Proofs.YtemmepgfngkgmaaGreatDoor
