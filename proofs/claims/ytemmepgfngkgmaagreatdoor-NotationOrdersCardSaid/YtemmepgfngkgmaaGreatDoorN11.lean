/-
  Contract of the notation: table.
-/
import Derived.Test.YtemmepgfngkgmaaGreatDoorN7
namespace Go.Proofs.YtemmepgfngkgmaaGreatDoor
open Go.RowKit
set_option linter.unusedVariables false
set_option linter.unusedSimpArgs false

theorem ToksR.grownR {w w' : World} {a : Option Addr} {n cap : Nat} {r : Option Nat} {l : List Tok} (h : ToksR w (.slice a n cap) l) (hg : w.grownBy w' r) (hne : ∀ x, a = some x → some x.block ≠ r) : ToksR w' (.slice a n cap) l := by
  obtain ⟨a', cap', e, h2, h3, h4, h5⟩ := h
  injection e with e1 e2 e3
  subst e1 e2 e3
  refine ⟨a, _, rfl, h2, h3, h4, ?_⟩
  rcases h5 with h5 | ⟨tb, off, rfl, hl, hc⟩
  · exact .inl h5
  · refine .inr ⟨tb, off, rfl, Nat.lt_of_lt_of_le hl hg.size, fun i hi => ?_⟩
    rw [World.cell?_of_block (hg.block tb hl (hne _ rfl))]
    exact hc i hi
theorem Tk.grownR {w w' : World} {rb tb : Nat} {T : TypeId} {rest : List Value} {s : Rs} {r : Option Nat} (h : Tk w rb tb T rest s) (hg : w.grownBy w' r) (h1 : r ≠ some rb) (h2 : r ≠ some tb) : Tk w' rb tb T rest s := by
  obtain ⟨a0, off, cap, hb, hne, ht⟩ := h
  exact ⟨a0, off, cap, hb.grown hg h1, hne, ht.grownR hg (fun x hx => by cases hx; exact Ne.symm h2)⟩

/-- While a table is read: the tokens, the lines so far. -/
structure TbI (w0 w : World) (rb tb : Nat) (T : TypeId) (rest : List Value) (v : Value) (es : List E) (s : Rs) : Prop where
  own : w.ownsRow w0.heap.size 149 4 v es.length (linesC es)
  tk : Tk w rb tb T rest s
  g : w0.grownBy w (some rb)
  env : EnvB w rb
  env0 : Env w0
  hrb : rb < w0.heap.size
  htb : tb < w0.heap.size
section
variable {w0 w w' : World} {rb tb : Nat} {T : TypeId} {rest : List Value} {v v' : Value} {es es' : List E} {s s' : Rs}
theorem TbI.step (h : TbI w0 w rb tb T rest v es s) (ht : Tk w' rb tb T rest s') (hg : w.grownBy w' (some rb)) : TbI w0 w' rb tb T rest v es s' :=
  ⟨h.own.kept hg (by
    cases hv : v.ownBlock with
    | none => exact .inl rfl
    | some k => exact .inr (by have := (h.own.lt k hv).1; have := h.hrb; simp; omega)), ht, grown_trans h.g hg, h.env.grown hg, h.env0, h.hrb, h.htb⟩
theorem TbI.below (h : TbI w0 w rb tb T rest v es s) (hB : Below w.heap.size w w') : TbI w0 w' rb tb T rest v es s := h.step (h.tk.below hB) (grown_of hB _)
/-- The row is written, or made anew. -/
theorem TbI.row (h : TbI w0 w rb tb T rest v es s) (ho : w'.ownsRow w0.heap.size 149 4 v' es'.length (linesC es')) (hg : w.grownBy w' v.ownBlock) : TbI w0 w' rb tb T rest v' es' s := by
  have hb : ∀ k, v.ownBlock = some k → w0.heap.size ≤ k := fun k hk => (h.own.lt k hk).1
  have hrb := h.hrb
  have htb := h.htb
  have he := h.env0.lt
  refine ⟨ho, h.tk.grownR hg (fun e => by have := hb _ e; omega) (fun e => by have := hb _ e; omega), ⟨h.g.os ▸ hg.os, h.g.tape ▸ hg.tape, h.g.output ▸ hg.output, Nat.le_trans h.g.size hg.size, fun k hk hne => ?_⟩, ?_, h.env0, hrb, htb⟩
  · rw [hg.block k (Nat.lt_of_lt_of_le hk h.g.size) (fun e => by have := hb _ e.symm; omega)]
    exact h.g.block k hk hne
  · refine ⟨?_, h.env.2⟩
    cases hv : v.ownBlock with
    | none =>
      rw [hv] at hg
      exact h.env.1.below ⟨hg.os, hg.tape, hg.output, hg.size, fun k hk => hg.block k hk (by simp)⟩
    | some k =>
      rw [hv] at hg
      have := hb k hv
      exact h.env.1.grown hg (fun _ _ => by omega) (fun g' hg' => by rw [pow_g] at hg'; have := Option.some.inj hg'; omega)
end

theorem cell_set_self {w : World} {a : Addr} {v : Value} (h : w.cell? a = some v) (u : Value) : (w.setCell a u).cell? a = some u := World.cell?_setCell_same' w a u (by rw [h]; rfl)
def RetTab (w : World) (rb tb : Nat) (T : TypeId) (rest : List Value) (z : List E × Rs) (e : Ending) (w' : World) : Prop :=
  ∃ v, e = .returned v ∧ w'.ownsRow w.heap.size 149 4 v z.1.length (linesC z.1) ∧ Tk w' rb tb T rest z.2 ∧ w.grownBy w' (some rb)

set_option maxRecDepth 100000 in
set_option maxHeartbeats 2000000 in
theorem n_table (either : Bool) (sign : UInt8) (word : List UInt8) (f : Nat) (hf : EndsF f either) (hfn : ∀ args w, (callFunc f args).run Tryz.prog w = .ok (.enter f args) w) (n : Int) (hn1 : 1 ≤ n) (hn2 : n ≤ 12) (s : Rs) (rb tb : Nat) (w : World) (hE : EnvB w rb) (hT : Tk w rb tb 104 (rdRest word sign f n) s) :
    Calls Tryz.prog 49 #[.pointer (some ⟨rb, 0, none⟩)] w (RetTab w rb tb 104 (rdRest word sign f n) (tabL sign either n s.ts.length [] s)) := by
  have hln := hid (fun (s' : Rs) (w' : World) (hE' : EnvB w' rb) (hT' : Tk w' rb tb 104 (rdRest word sign f n) s') => n_line either sign word f hf hfn n hn1 hn2 s' rb tb w' hE' hT')
  obtain ⟨Z, hZ⟩ : ∃ Z, Z = tabL sign either n s.ts.length [] s := ⟨_, rfl⟩
  rw [← hZ]
  have HZ := hid hZ.symm
  have h0 : Hid (TbI w w rb tb 104 (rdRest word sign f n) (.slice none 0 0) [] s) := by
    obtain ⟨_, _, htb, _⟩ := hT.cells
    exact ⟨⟨rfl, .inl ⟨rfl, rfl⟩⟩, hT, World.grownBy.refl _ _, hE, hE.1, hT.lt, htb⟩
  have hok := hid hT.1
  clear hf hfn hE hT hZ
  go_enter Tryz.func49, Tryz.ntmps49
  go_wp2_with fail
  go_loopg [3] (s.ts.length + 1) (fun k v wr => ∃ es s', Hid (TbI w wr rb tb 104 (rdRest word sign f n) v es s') ∧ Hid (SortedE es) ∧ es.length + s'.ts.length ≤ 5000 ∧ Hid (TsOk s'.ts) ∧ (s'.e = 0 → s'.ts.length < k ∧ AllE (fun x => 0 ≤ x.m ∧ x.m ≤ 50) es) ∧ Hid (tabL sign either n s'.ts.length es s' = Z))
  case atStart => exact ⟨[], s, h0, fun j k hjk hk => absurd hk (by simp), by have := hok.out.2.1; simp; omega, hok, fun _ => ⟨by omega, fun x hx => by cases hx⟩, HZ⟩
  case round =>
    clear h0 hok HZ
    obtain ⟨es, s', HI, HS, hsz, HOK, hm, HZ⟩ := hrel
    obtain ⟨W1, rfl⟩ : ∃ W : World, W = wr := ⟨_, rfl⟩
    have HM := hid hm
    clear hm
    go_wp2_with fail
    refine (t_more W1 rb tb _ _ s' HI.out.tk).mono ?_
    rintro e w1 ⟨rfl, hB1⟩
    have HI1 := hid (HI.out.below hB1)
    clear hB1 HI
    cases hmr : s'.more with
    | false =>
      have HZ2 : Hid ((es, s') = Z) := by
        have h := HZ.out
        cases hl : s'.ts.length with
        | zero => have := HOK.out.1; omega
        | succ q => rw [hl] at h; unfold tabL at h; rw [if_pos hmr] at h; exact h
      clear hmr HZ
      dsimp only
      go_wp2_with fail
      go_ret
      refine ⟨_, rfl, ?_, ?_, HI1.out.g⟩
      · rw [← HZ2.out]; exact HI1.out.own
      · rw [← HZ2.out]; exact HI1.out.tk
    | true =>
      have he0 : s'.e = 0 := by unfold Rs.more at hmr; simp at hmr; exact hmr.1
      obtain ⟨hgk, hall⟩ := HM.out he0
      have HGK := hid hgk
      have HALL := hid hall
      have HLT := hid (line_ts HOK.out sign n)
      have hlz : s'.ts.length = (s'.ts.length - 1) + 1 := by have := HOK.out.1; omega
      have hz := HZ.out
      rw [hlz] at hz
      unfold tabL at hz
      rw [if_neg (by rw [hmr]; decide)] at hz
      have HZ := hid hz
      clear hmr hz hlz hgk hall he0 HM
      dsimp only
      go_wp2_with fail
      refine (hln.out s' w1 HI1.out.env HI1.out.tk).mono ?_
      rintro e w2 ⟨rfl, ht2, hg2⟩
      have HI2 := hid (HI1.out.step ht2 hg2)
      clear ht2 hg2 HI1
      (try dsimp only at HZ)
      generalize hp : s'.line sign n = p at *
      obtain ⟨x, s2⟩ := p
      have HP := hid hp
      clear hp
      (try dsimp only at HI2)
      (try dsimp only at HZ)
      (try dsimp only at HLT)
      unfold lnV
      (try dsimp only)
      have c1 := HI2.out.tk.rest.1
      have hlr := HI2.out.tk.lt
      by_cases he : s2.e = 0
      case neg =>
        have he1 : (s2.e != 0) = true := by simpa using he
        have HZ2 : Hid ((es, s2) = Z) := by have h := HZ.out; rw [if_pos he] at h; exact h
        generalize hge : s2.e = ee at *
        have HGE := hid hge
        clear he hge HZ
        go_wp2_with fail
        have HI3 := hid (HI2.out.below ((Below.refl _ _).alloc (Nat.le_refl _) (.cells #[.int .i64 (lo either x), .int .i64 (hi either x), .int .i64 x.m, .int .i64 x.pl] 149)))
        go_ret
        refine ⟨_, rfl, ?_, ?_, HI3.out.g⟩
        · rw [← HZ2.out]; exact HI3.out.own
        · rw [← HZ2.out]; exact HI3.out.tk
      have hlx := HLT.out.2.2 he
      have HLX := hid hlx
      rw [he] at c1
      have hz := HZ.out
      rw [if_neg (by omega)] at hz
      have HZ := hid hz
      clear hz hlx
      generalize hA : lo either x = A at *
      generalize hB : hi either x = B at *
      have HI3 := hid (HI2.out.below ((Below.refl _ _).alloc (Nat.le_refl _) (.cells #[.int .i64 A, .int .i64 B, .int .i64 x.m, .int .i64 x.pl] 149)))
      have HXB := hid (Blk.new w2 #[.int .i64 A, .int .i64 B, .int .i64 x.m, .int .i64 x.pl] 149)
      have HE2 := hid he
      clear hA hB he
      go_upto_region 5 with fail
      generalize hX : w2.heap.size = X at *
      generalize w2.alloc (.cells #[.int .i64 A, .int .i64 B, .int .i64 x.m, .int .i64 x.pl] 149) = W3 at *
      have hXl := HXB.out.lt
      have HXW : Hid (w.heap.size ≤ X) := by show _ ≤ _; rw [← hX]; exact HI2.out.g.size
      have x0 := HXB.out.cell 0
      have x1 := HXB.out.cell 1
      have x2 := HXB.out.cell 2
      have x3 := HXB.out.cell 3
      simp only [List.getElem?_toArray, List.getElem?_cons_zero, List.getElem?_cons_succ] at x0 x1 x2 x3
      have HUX : Hid (∀ k, u3.ownBlock = some k → k < X) := fun k hk => by rw [← hX]; exact (HI2.out.own.lt k hk).2
      clear hX HI2 hlr c1
      go_wp2_with fail
      refine (c_Bsf W3 w.heap.size u3 es A B x.m x.pl HI3.out.own HS.out (by omega)).mono ?_
      rintro e w4 ⟨rfl, hB4⟩
      have HI4 := hid (HI3.out.below hB4)
      have HX4 := hid (HXB.out.below hB4)
      have hXl := HX4.out.lt
      have x0 := HX4.out.cell 0
      have x1 := HX4.out.cell 1
      have x2 := HX4.out.cell 2
      have x3 := HX4.out.cell 3
      simp only [List.getElem?_toArray, List.getElem?_cons_zero, List.getElem?_cons_succ] at x0 x1 x2 x3
      clear hB4 HI3 HXB
      cases hfd : foundE es A B with
      | false =>
        dsimp only
        go_wp2_with fail
        have hnb := Blk.new w4 #[.int .i64 A, .int .i64 B, .int .i64 0, .int .i64 0] 149
        have HI4b := hid (HI4.out.below ((Below.refl _ _).alloc (Nat.le_refl _) (.cells #[.int .i64 A, .int .i64 B, .int .i64 0, .int .i64 0] 149)))
        have HX4b := hid (HX4.out.alloc (.cells #[.int .i64 A, .int .i64 B, .int .i64 0, .int .i64 0] 149))
        have hne : u3.ownBlock ≠ some w4.heap.size := fun e => by have := (HI4.out.own.lt _ e).2; omega
        refine (c_Insert _ w.heap.size u3 es.length (posE es A B) (linesC es) _ _ _ _ w4.heap.size HI4b.out.own (posE_le es A B) (by omega) hnb (by intro u hu; simp at hu; rcases hu with rfl | rfl | rfl | rfl <;> rfl) (lines_one es) hne HI4b.out.g.size).mono ?_
        rintro e w5 ⟨v5, rfl, ho5, hg5⟩
        have HI5 : Hid (TbI w w5 rb tb 104 (rdRest word sign f n) v5 (insE es A B) s2) := by
          refine TbI.row HI4b.out ?_ hg5
          rw [insE_len_new hfd, insE_lines hfd]
          exact ho5
        have HX5 := hid (HX4b.out.grown hg5 (fun e => by have := HUX.out _ e; omega))
        clear ho5 hg5 hnb HI4 HI4b HX4 HX4b hne x0 x1 x2 x3 hXl
        dsimp only
        go_upto_region 8 with fail
        have hat := insE_at es A B
        obtain ⟨g, cap, ev, hbg, hgl, hnc, hcm, hfz, hcs⟩ := owns_lines HI5.out.own (by omega)
        have hown5 := HI5.out.own
        rw [ev] at hown5
        obtain ⟨_, _, y2, _⟩ := hcs (posE es A B) hat.1
        have hgX : g ≠ X := fun e => by
          rw [e, HX5.out.cell, insE_new_m hfd] at y2
          by_cases hp : posE es A B = 0
          · rw [hp] at y2
            have h2 : x.m = 0 := by simpa using y2
            have := HLX.out.2.2.2.2.2
            omega
          · rw [Array.getElem?_eq_none (by simp; omega)] at y2
            cases y2
        subst ev
        have HF5 := hid (fun (W' : World) (hB : Below w5.heap.size w5 W') => (show W'.frozen? ⟨g, posE es A B * 4 + 2, none⟩ = false by rw [hB.frozen hgl]; exact hfz _))
        have HY := hid (fun (W' : World) (hB : Below w5.heap.size w5 W') => (hB.cell hgl).trans y2)
        have hm50 := insE_m HALL.out A B
        have HIA := hid (insE_all (p := fun x => 0 ≤ x.m ∧ x.m ≤ 50) HALL.out A B ⟨by show (0 : Int) ≤ 0; decide, by show (0 : Int) ≤ 50; decide⟩)
        have HLEN := hid (insE_len es A B)
        have hpl := hat.1
        have HALN := hid (addE_lines es A B x.m)
        have HADL := hid (addE_len es A B x.m)
        have HADA := hid (fun h => addE_all (p := fun x => 0 ≤ x.m ∧ x.m ≤ 50) A B x.m HIA.out h)
        have HOW := hid hown5
        have hgsz := hgl
        generalize hm0 : ((insE es A B)[posE es A B]?.getD default).m = m0 at *
        generalize hps : posE es A B = ps at *
        generalize hln5 : (insE es A B).length = ln at *
        have hpI : (ps : Int) < (ln : Int) := by omega
        have hp0 : (0 : Int) ≤ (ps : Int) := by omega
        have hxm := HLX.out.2.2.2.2.2
        have wm : IntKind.i64.wrap (m0 + x.m) = m0 + x.m := IntWalk.i64_in _ (by omega)
        have wX := HX5.out.lt
        have HSZ := hid hsz
        clear hat hfz hcs y2 hown5 hm0 hps hln5 hnc hcm hbg
        let S : World → Prop := fun W' => W'.cell? ⟨g, ps * 4 + 2, none⟩ = some (.int .i64 m0) ∧ W'.cell? ⟨X, 2, none⟩ = some (.int .i64 x.m)
        (refine wp_region_text 10 [0,1,2,3,4,5,6,7,8,9] S (by kernel_rfl) (by kernel_rfl) (by intro _ _ d _ _ h; cases d <;> exact h) ?hS ?_; rotate_left; simp only [List.map_cons, List.map_nil, List.getD_cons_zero, List.getD_cons_succ, List.drop_succ_cons, List.drop_zero])
        case hS => exact ⟨HY.out _ (Below.drew (Below.refl _ _)), ((HX5.out.below (Below.drew (Below.refl _ _))).cell 2).trans rfl⟩
        (repeat ((refine' wpSeq_take rfl _ (by rfl) ?_ ?_; rotate_left; focus (intro w' hS; (try dsimp only at hS); obtain ⟨s1, s2⟩ := hS; go_simp; (first | done | with_reducible rfl)); (try simp only [Act.put, List.setIfInBounds_toArray, List.set_cons_zero, List.set_cons_succ])); (try simp only [Act.put, List.setIfInBounds_toArray, List.set_cons_zero, List.set_cons_succ])))
        refine wpSeq_nil ?_
        clear S
        have f1 := HF5.out _ (Below.drew (Below.refl _ _))
        have y1 := HY.out _ (Below.drew (Below.refl _ _))
        have gl1 : g < w5.drew.heap.size := hgl
        go_upto_region 9 with fail
        have HO6 : Hid (((w5.setCell ⟨g, ps * 4 + 2, none⟩ (.int .i64 (m0 + x.m))).drew).ownsRow w.heap.size 149 4 (.slice (some ⟨g, 0, none⟩) ln cap) (addE es A B x.m).length (linesC (addE es A B x.m))) := by
          show World.ownsRow _ _ _ _ _ _ _
          rw [HADL.out, HALN.out]
          exact (HOW.out.drew.stored (ps * 4 + 2) (.int .i64 (m0 + x.m))).1
        have HI6 : Hid (TbI w ((w5.setCell ⟨g, ps * 4 + 2, none⟩ (.int .i64 (m0 + x.m))).drew) rb tb 104 (rdRest word sign f n) (.slice (some ⟨g, 0, none⟩) ln cap) (addE es A B x.m) s2) :=
          TbI.row (HI5.out.below (Below.drew (Below.refl _ _))) HO6.out (grown_set _ _ _ _)
        have HX6 : Hid (Blk ((w5.setCell ⟨g, ps * 4 + 2, none⟩ (.int .i64 (m0 + x.m))).drew) X #[.int .i64 A, .int .i64 B, .int .i64 x.m, .int .i64 x.pl] 149) := (HX5.out.below (Below.drew (Below.refl _ _))).other (Ne.symm hgX) (ps * 4 + 2) (.int .i64 (m0 + x.m))
        have y3 : ((w5.setCell ⟨g, ps * 4 + 2, none⟩ (.int .i64 (m0 + x.m))).drew).cell? ⟨g, ps * 4 + 2, none⟩ = some (.int .i64 (m0 + x.m)) := cell_set_self y1 _
        clear HO6 HOW f1 y1 gl1 HF5 HY HX5 HI5
        generalize (w5.setCell ⟨g, ps * 4 + 2, none⟩ (.int .i64 (m0 + x.m))).drew = W6 at *
        have HSRT := hid (addE_sorted HS.out A B x.m)
        by_cases h50 : 50 < m0 + x.m
        · have HZ2 : Hid ((addE es A B x.m, s2.fail 5 x.pl) = Z) := by have h := HZ.out; rw [if_pos h50] at h; exact h
          have H50 := hid h50
          go_upto_region 10 with fail
          let S : World → Prop := fun W' => W'.cell? ⟨X, 3, none⟩ = some (.int .i64 x.pl)
          (refine wp_region_text 5 [0,1,2,3,4] S (by kernel_rfl) (by kernel_rfl) (by intro _ _ d _ _ h; cases d <;> exact h) ?hS ?_; rotate_left; simp only [List.map_cons, List.map_nil, List.getD_cons_zero, List.getD_cons_succ, List.drop_succ_cons, List.drop_zero])
          case hS => exact ((HX6.out.below (Below.drew (Below.refl _ _))).cell 3).trans rfl
          (repeat ((refine' wpSeq_take rfl _ (by rfl) ?_ ?_; rotate_left; focus (intro w' hS; (try dsimp only at hS); have s1 : w'.cell? ⟨X, 3, none⟩ = some (.int .i64 x.pl) := hS; go_simp; (first | done | with_reducible rfl)); (try simp only [Act.put, List.setIfInBounds_toArray, List.set_cons_zero, List.set_cons_succ])); (try simp only [Act.put, List.setIfInBounds_toArray, List.set_cons_zero, List.set_cons_succ])))
          refine wpSeq_nil ?_
          clear S
          have HI7 := hid (HI6.out.below (Below.drew (Below.refl _ _)))
          clear HI6 y3 HX6 h50 HZ
          go_wp2_with fail
          refine (t_fail _ rb tb _ _ s2 HI7.out.tk 5 x.pl).mono ?_
          rintro e w8 ⟨rfl, ht8, hg8⟩
          have HI8 := hid (HI7.out.step ht8 hg8)
          clear ht8 hg8 HI7
          dsimp only
          go_wp2_with fail
          go_roundg (gk - 1)
          case measure => have := HGK.out; omega
          case rel => exact ⟨_, _, HI8, HSRT, by rw [HADL.out, fail_ts]; have := HLEN.out; have := HLX.out.1; have := HSZ.out; omega, by rw [fail_ts]; exact HLT.out.1, fun h => (fail_e (by decide) h).elim, (tabL_end _ _ _ _ _ _ (not_more (fun h => fail_e (by decide) h))).trans HZ2.out⟩
        · have HZ2 : Hid (tabL sign either n (s'.ts.length - 1) (addE es A B x.m) s2 = Z) := by have h := HZ.out; rw [if_neg h50] at h; exact h
          have H50 := hid h50
          clear HZ HX6
          go_wp2_with fail
          go_roundg (gk - 1)
          case measure => have := HGK.out; omega
          case rel =>
            refine ⟨_, _, HI6, HSRT, by rw [HADL.out]; have := HLEN.out; have := HLX.out.1; have := HSZ.out; omega, HLT.out.1, fun _ => ⟨by have := HLX.out.1; have := HGK.out; omega, HADA.out ⟨by show 0 ≤ m0 + x.m; omega, by show m0 + x.m ≤ 50; have := H50.out; omega⟩⟩, ?_⟩
            rw [← HZ2.out]
            exact tabL_fuel _ _ _ _ _ _ _ HLT.out.1 (Nat.le_refl _) (by have := HLX.out.1; omega)
      | true =>
        have HI5 : Hid (TbI w w4 rb tb 104 (rdRest word sign f n) u3 (insE es A B) s2) := by rw [insE_found hfd]; exact HI4
        have HX5 := HX4
        clear HI4 HX4 x0 x1 x2 x3 hXl
        dsimp only
        go_upto_region 8 with fail
        have hat := insE_at es A B
        obtain ⟨g, cap, ev, hbg, hgl, hnc, hcm, hfz, hcs⟩ := owns_lines HI5.out.own (by omega)
        have hown5 := HI5.out.own
        rw [ev] at hown5
        obtain ⟨_, _, y2, _⟩ := hcs (posE es A B) hat.1
        have hgX : g ≠ X := fun e => by
          have := HUX.out g (by rw [ev]; rfl)
          omega
        subst ev
        have HF5 := hid (fun (W' : World) (hB : Below w4.heap.size w4 W') => (show W'.frozen? ⟨g, posE es A B * 4 + 2, none⟩ = false by rw [hB.frozen hgl]; exact hfz _))
        have HY := hid (fun (W' : World) (hB : Below w4.heap.size w4 W') => (hB.cell hgl).trans y2)
        have hm50 := insE_m HALL.out A B
        have HIA := hid (insE_all (p := fun x => 0 ≤ x.m ∧ x.m ≤ 50) HALL.out A B ⟨by show (0 : Int) ≤ 0; decide, by show (0 : Int) ≤ 50; decide⟩)
        have HLEN := hid (insE_len es A B)
        have hpl := hat.1
        have HALN := hid (addE_lines es A B x.m)
        have HADL := hid (addE_len es A B x.m)
        have HADA := hid (fun h => addE_all (p := fun x => 0 ≤ x.m ∧ x.m ≤ 50) A B x.m HIA.out h)
        have HOW := hid hown5
        have hgsz := hgl
        generalize hm0 : ((insE es A B)[posE es A B]?.getD default).m = m0 at *
        generalize hps : posE es A B = ps at *
        generalize hln5 : (insE es A B).length = ln at *
        have hpI : (ps : Int) < (ln : Int) := by omega
        have hp0 : (0 : Int) ≤ (ps : Int) := by omega
        have hxm := HLX.out.2.2.2.2.2
        have wm : IntKind.i64.wrap (m0 + x.m) = m0 + x.m := IntWalk.i64_in _ (by omega)
        have wX := HX5.out.lt
        have HSZ := hid hsz
        clear hat hfz hcs y2 hown5 hm0 hps hln5 hnc hcm hbg
        let S : World → Prop := fun W' => W'.cell? ⟨g, ps * 4 + 2, none⟩ = some (.int .i64 m0) ∧ W'.cell? ⟨X, 2, none⟩ = some (.int .i64 x.m)
        (refine wp_region_text 10 [0,1,2,3,4,5,6,7,8,9] S (by kernel_rfl) (by kernel_rfl) (by intro _ _ d _ _ h; cases d <;> exact h) ?hS ?_; rotate_left; simp only [List.map_cons, List.map_nil, List.getD_cons_zero, List.getD_cons_succ, List.drop_succ_cons, List.drop_zero])
        case hS => exact ⟨HY.out _ (Below.drew (Below.refl _ _)), ((HX5.out.below (Below.drew (Below.refl _ _))).cell 2).trans rfl⟩
        (repeat ((refine' wpSeq_take rfl _ (by rfl) ?_ ?_; rotate_left; focus (intro w' hS; (try dsimp only at hS); obtain ⟨s1, s2⟩ := hS; go_simp; (first | done | with_reducible rfl)); (try simp only [Act.put, List.setIfInBounds_toArray, List.set_cons_zero, List.set_cons_succ])); (try simp only [Act.put, List.setIfInBounds_toArray, List.set_cons_zero, List.set_cons_succ])))
        refine wpSeq_nil ?_
        clear S
        have f1 := HF5.out _ (Below.drew (Below.refl _ _))
        have y1 := HY.out _ (Below.drew (Below.refl _ _))
        have gl1 : g < w4.drew.heap.size := hgl
        go_upto_region 9 with fail
        have HO6 : Hid (((w4.setCell ⟨g, ps * 4 + 2, none⟩ (.int .i64 (m0 + x.m))).drew).ownsRow w.heap.size 149 4 (.slice (some ⟨g, 0, none⟩) ln cap) (addE es A B x.m).length (linesC (addE es A B x.m))) := by
          show World.ownsRow _ _ _ _ _ _ _
          rw [HADL.out, HALN.out]
          exact (HOW.out.drew.stored (ps * 4 + 2) (.int .i64 (m0 + x.m))).1
        have HI6 : Hid (TbI w ((w4.setCell ⟨g, ps * 4 + 2, none⟩ (.int .i64 (m0 + x.m))).drew) rb tb 104 (rdRest word sign f n) (.slice (some ⟨g, 0, none⟩) ln cap) (addE es A B x.m) s2) :=
          TbI.row (HI5.out.below (Below.drew (Below.refl _ _))) HO6.out (grown_set _ _ _ _)
        have HX6 : Hid (Blk ((w4.setCell ⟨g, ps * 4 + 2, none⟩ (.int .i64 (m0 + x.m))).drew) X #[.int .i64 A, .int .i64 B, .int .i64 x.m, .int .i64 x.pl] 149) := (HX5.out.below (Below.drew (Below.refl _ _))).other (Ne.symm hgX) (ps * 4 + 2) (.int .i64 (m0 + x.m))
        have y3 : ((w4.setCell ⟨g, ps * 4 + 2, none⟩ (.int .i64 (m0 + x.m))).drew).cell? ⟨g, ps * 4 + 2, none⟩ = some (.int .i64 (m0 + x.m)) := cell_set_self y1 _
        clear HO6 HOW f1 y1 gl1 HF5 HY HX5 HI5
        generalize (w4.setCell ⟨g, ps * 4 + 2, none⟩ (.int .i64 (m0 + x.m))).drew = W6 at *
        have HSRT := hid (addE_sorted HS.out A B x.m)
        by_cases h50 : 50 < m0 + x.m
        · have HZ2 : Hid ((addE es A B x.m, s2.fail 5 x.pl) = Z) := by have h := HZ.out; rw [if_pos h50] at h; exact h
          have H50 := hid h50
          go_upto_region 10 with fail
          let S : World → Prop := fun W' => W'.cell? ⟨X, 3, none⟩ = some (.int .i64 x.pl)
          (refine wp_region_text 5 [0,1,2,3,4] S (by kernel_rfl) (by kernel_rfl) (by intro _ _ d _ _ h; cases d <;> exact h) ?hS ?_; rotate_left; simp only [List.map_cons, List.map_nil, List.getD_cons_zero, List.getD_cons_succ, List.drop_succ_cons, List.drop_zero])
          case hS => exact ((HX6.out.below (Below.drew (Below.refl _ _))).cell 3).trans rfl
          (repeat ((refine' wpSeq_take rfl _ (by rfl) ?_ ?_; rotate_left; focus (intro w' hS; (try dsimp only at hS); have s1 : w'.cell? ⟨X, 3, none⟩ = some (.int .i64 x.pl) := hS; go_simp; (first | done | with_reducible rfl)); (try simp only [Act.put, List.setIfInBounds_toArray, List.set_cons_zero, List.set_cons_succ])); (try simp only [Act.put, List.setIfInBounds_toArray, List.set_cons_zero, List.set_cons_succ])))
          refine wpSeq_nil ?_
          clear S
          have HI7 := hid (HI6.out.below (Below.drew (Below.refl _ _)))
          clear HI6 y3 HX6 h50 HZ
          go_wp2_with fail
          refine (t_fail _ rb tb _ _ s2 HI7.out.tk 5 x.pl).mono ?_
          rintro e w8 ⟨rfl, ht8, hg8⟩
          have HI8 := hid (HI7.out.step ht8 hg8)
          clear ht8 hg8 HI7
          dsimp only
          go_wp2_with fail
          go_roundg (gk - 1)
          case measure => have := HGK.out; omega
          case rel => exact ⟨_, _, HI8, HSRT, by rw [HADL.out, fail_ts]; have := HLEN.out; have := HLX.out.1; have := HSZ.out; omega, by rw [fail_ts]; exact HLT.out.1, fun h => (fail_e (by decide) h).elim, (tabL_end _ _ _ _ _ _ (not_more (fun h => fail_e (by decide) h))).trans HZ2.out⟩
        · have HZ2 : Hid (tabL sign either n (s'.ts.length - 1) (addE es A B x.m) s2 = Z) := by have h := HZ.out; rw [if_neg h50] at h; exact h
          have H50 := hid h50
          clear HZ HX6
          go_wp2_with fail
          go_roundg (gk - 1)
          case measure => have := HGK.out; omega
          case rel =>
            refine ⟨_, _, HI6, HSRT, by rw [HADL.out]; have := HLEN.out; have := HLX.out.1; have := HSZ.out; omega, HLT.out.1, fun _ => ⟨by have := HLX.out.1; have := HGK.out; omega, HADA.out ⟨by show 0 ≤ m0 + x.m; omega, by show m0 + x.m ≤ 50; have := H50.out; omega⟩⟩, ?_⟩
            rw [← HZ2.out]
            exact tabL_fuel _ _ _ _ _ _ _ HLT.out.1 (Nat.le_refl _) (by have := HLX.out.1; omega)

end Go.Proofs.YtemmepgfngkgmaaGreatDoor
