/-
  The reference's tables: Table; table.
-/
import Derived.Test.YtemmepgfngkgmaaGreatDoorN37
namespace Go.Proofs.YtemmepgfngkgmaaGreatDoor
open Go.RowKit
set_option linter.unusedVariables false
set_option linter.unusedSimpArgs false

/-- A matrix is handed back; all that was there before is as it was. -/
def RetMq (T1 T0 : TypeId) (w : World) (N : Nat) (f : Nat → Nat → Int) (e : Ending) (w' : World) : Prop := ∃ v bs, e = .returned v ∧ OwnM T1 T0 w' w.heap.size v N N bs f ∧ Below w.heap.size w w'

set_option maxRecDepth 100000 in
set_option maxHeartbeats 1000000 in
theorem q_Table (n : Int) (N : Nat) (h1 : n ≤ (N : Int)) (h2 : (N : Int) ≤ n) (h3 : n ≤ 100) (w : World) :
    Calls Tryz.prog 106 #[.int .i64 n] w (RetMq 50 3 w N fun _ _ => 0) := by
  have HN : Hid (n.toNat = N) := by show _ = _; omega
  obtain ⟨i0, hi, hz0, hz1, hz2⟩ := info_parts info_ints
  go_enter Tryz.func106, Tryz.ntmps106
  go_wp2
  go_loopw [3, 4] (fun t i wr => ∃ (k : Nat) (bs : Nat → Nat), k ≤ N ∧ i = .int .i64 k ∧ OwnM 50 3 wr w.heap.size t N k bs (fun _ _ => 0) ∧ Below w.heap.size w wr)
    (fun _ i _ => N - (intOf i).toNat)
  case atStart => exact ⟨0, fun _ => 0, Nat.zero_le _, rfl, OwnM.zero _ _ _ _ _ _ _, Below.refl _ _⟩
  case round =>
    obtain ⟨k, bs, hk, rfl, hM, hB⟩ := hrel
    have hs := hB.size
    by_cases hlt : k < N
    · have hlt' : (k : Int) < n := by omega
      have ho := hM.outer.lt
      go_wp2_with (first
        | (at_make; refine wpList_mk1 _ (Value.int .i64) 0 rfl _ _ 50 rfl w.heap.size 3 8 und_ints info_int rfl n rfl rfl (by omega) (by omega) (by omega) wr.heap.size rfl (by omega) ?_; intro w1 hrow hB1; rw [HN.out] at hrow ⊢; have hs1 := hB1.size)
        | (at_builtin; refine wpList_append_own _ rfl (.tmp 10) (.tmp 13) 38 rfl w.heap.size 50 i0 (.slice none 0 0) 1 24 und_lists hi hz0 hz1 hz2 rfl (by decide) _ k _ rfl ((hM.below hB1).outer.alloc _) ⟨w1.heap.size, 0, none⟩ 1 1 [.slice (some ⟨wr.heap.size, 0, none⟩) N N] rfl rfl (cell_one_new _ _ _) (by simp [Value.oneCell']) (by unfold maxLen; omega) (by omega) (by simp; omega) ?_; intro v' w2 hown2 hgr2 _))
      go_roundw
      case rel =>
        have hM1 := hM.below hB1
        have hbk : ∀ i, i < k → bs i ≠ wr.heap.size := fun i hi => by have := hM.lt i hi; omega
        refine ⟨k + 1, _, by omega, by go_num, hM1.snoc (b := wr.heap.size) ?_ hbk hown2 ?_, ?_⟩
        · rw [vecOf_zero] at hrow
          refine (hrow.alloc _).kept hgr2 (.inr ?_)
          intro e
          have := ho _ e.symm
          dsimp only at this
          omega
        · intro i hi
          exact ((hM1.row i hi).alloc _).kept hgr2 (.inr fun e => hM.blk (by decide) i hi e.symm)
        · exact (((hB.trans (hB1.mono hs)).alloc (by omega) _).grown hgr2 (by simp; omega) (fun q hq => (ho q hq).1))
      case measure => simp [intOf]; omega
    · have hlt' : ¬ (k : Int) < n := by omega
      obtain rfl : k = N := by omega
      go_wp2
      go_ret
      exact ⟨_, _, rfl, hM, hB⟩


theorem tabG_end (sign : UInt8) (either : Bool) (n : Int) (f : Nat) (M : Int → Int → Int) (s : Rs) (h : s.more = false) : tabG sign either n f M s = (M, s) := by
  cases f with
  | zero => rfl
  | succ f => unfold tabG; rw [if_pos h]
theorem tabG_step (sign : UInt8) (either : Bool) (n : Int) (f : Nat) (M : Int → Int → Int) (s : Rs) (h : s.more = true) (x : Ln) (s2 : Rs) (hx : s.line sign n = (x, s2)) :
    tabG sign either n (f + 1) M s = if s2.e ≠ 0 then (M, s2) else if 50 < M (lo either x) (hi either x) + x.m then (M, s2.fail 5 x.pl) else tabG sign either n f (addM M (lo either x) (hi either x) x.m) s2 := by
  conv => lhs; unfold tabG
  rw [if_neg (by rw [h]; decide)]
  dsimp only
  rw [hx]
theorem tabG_fuel (sign : UInt8) (either : Bool) (n : Int) : ∀ (f g : Nat) (M : Int → Int → Int) (s : Rs), TsOk s.ts → s.ts.length ≤ f → s.ts.length ≤ g → tabG sign either n f M s = tabG sign either n g M s
  | 0, _, M, s, h, h1, _ => by have := h.1; omega
  | _, 0, M, s, h, _, h2 => by have := h.1; omega
  | f + 1, g + 1, M, s, h, h1, h2 => by
    cases hm : s.more with
    | false => rw [tabG_end _ _ _ _ _ _ hm, tabG_end _ _ _ _ _ _ hm]
    | true =>
      have hl := line_ts h sign n
      rw [tabG_step _ _ _ f _ _ hm (s.line sign n).1 (s.line sign n).2 rfl, tabG_step _ _ _ g _ _ hm (s.line sign n).1 (s.line sign n).2 rfl]
      generalize s.line sign n = p at *
      split
      · rfl
      · split
        · rfl
        · have := hl.2.2 (by omega)
          exact tabG_fuel sign either n f g _ _ hl.1 (by omega) (by omega)
def natM (M : Int → Int → Int) (i j : Nat) : Int := M (i : Int) (j : Int)
def RetTb (w : World) (b tb : Nat) (L : List Tok) (N : Nat) (z : (Int → Int → Int) × Rs) (e : Ending) (w' : World) : Prop :=
  ∃ v bs, e = .returned v ∧ OwnM 50 3 w' w.heap.size v N N bs (natM z.1) ∧ Rk w' b tb L z.2 ∧ w.grownBy w' (some b)

/-- While a table is read. -/
structure RmI (w0 w : World) (b tb : Nat) (L : List Tok) (N go co : Nat) (bs : Nat → Nat) (M : Int → Int → Int) (s : Rs) : Prop where
  m : OwnM 50 3 w w0.heap.size (.slice (some ⟨go, 0, none⟩) N co) N N bs (natM M)
  tk : Rk w b tb L s
  g : w0.grownBy w (some b)
  hb : b < w0.heap.size
  htb : tb < w0.heap.size
section
variable {w0 w w' : World} {b tb : Nat} {L : List Tok} {N go co : Nat} {bs : Nat → Nat} {M : Int → Int → Int} {s s' : Rs}
theorem RmI.step (h : RmI w0 w b tb L N go co bs M s) (ht : Rk w' b tb L s') (hg : w.grownBy w' (some b)) : RmI w0 w' b tb L N go co bs M s' :=
  ⟨h.m.kept hg (.inr (fun e => by have := (h.m.outer.lt _ e).1; have := h.hb; omega)) (fun i hi e => by have := (h.m.lt i hi).1; have := h.hb; simp at e; omega), ht, grown_trans h.g hg, h.hb, h.htb⟩
theorem RmI.below (h : RmI w0 w b tb L N go co bs M s) (hB : Below w.heap.size w w') : RmI w0 w' b tb L N go co bs M s := h.step (h.tk.below hB) (grown_of hB _)
theorem RmI.put (h : RmI w0 w b tb L N go co bs M s) {i j : Nat} (hi : i < N) (hj : j < N) (m x : Int) (hx : x = M i j + m) : RmI w0 (w.setCell ⟨bs i, j, none⟩ (.int .i64 x)) b tb L N go co bs (addM M i j m) s := by
  have hl := h.m.lt i hi
  have h1 := h.hb
  have h2 := h.htb
  refine ⟨(h.m.set (by decide) i j hi x).congr _ (fun i' j' _ _ => ?_), h.tk.setO (by omega) (by omega) j _, grown_setN _ _ _ _ hl.1 _ h.g, h1, h2⟩
  unfold natM addM
  by_cases e : i' = i ∧ j' = j
  · obtain ⟨rfl, rfl⟩ := e
    rw [if_pos ⟨rfl, rfl⟩, if_pos ⟨rfl, rfl⟩, hx]
  · rw [if_neg e, if_neg (by omega)]
end
theorem addM_le {M : Int → Int → Int} (h : ∀ x y, 0 ≤ M x y ∧ M x y ≤ 50) {a b m : Int} (hm : 0 ≤ m) (h50 : M a b + m ≤ 50) : ∀ x y, 0 ≤ addM M a b m x y ∧ addM M a b m x y ≤ 50 := fun x y => by
  unfold addM
  have h1 := h a b
  have h2 := h x y
  split <;> omega

set_option maxRecDepth 100000 in
set_option maxHeartbeats 8000000 in
theorem q_table (n : Int) (N : Nat) (hN1 : (N : Int) ≤ n) (hN2 : n ≤ (N : Int)) (hn1 : 1 ≤ n) (hn2 : n ≤ 12) (sign : UInt8) (either : Bool) (L : List Tok) (s : Rs) (b tb : Nat) (w : World) (h : Rk w b tb L s) :
    Calls Tryz.prog 53 #[.pointer (some ⟨b, 0, none⟩), .int .i64 n, .string (str [sign]), .bool either] w (RetTb w b tb L N (tabG sign either n s.ts.length (fun _ _ => 0) s)) := by
  obtain ⟨Z, hZ⟩ : ∃ Z, Z = tabG sign either n s.ts.length (fun _ _ => 0) s := ⟨_, rfl⟩
  rw [← hZ]
  have HZ := hid hZ.symm
  have HT := hid h
  have HNN := hid (show (N : Int) ≤ n ∧ n ≤ (N : Int) ∧ 1 ≤ n ∧ n ≤ 12 from ⟨hN1, hN2, hn1, hn2⟩)
  have HLN := hid (fun (s : Rs) (w : World) (h : Rk w b tb L s) => q_line w b tb L s h n sign (by omega))
  have HTB := hid (fun w => q_Table n N hN2 hN1 (by omega) w)
  clear hZ h hN1 hN2 hn1 hn2
  go_enter Tryz.func53, Tryz.ntmps53
  go_wp2_with fail
  refine (HTB.out w).mono ?_
  rintro e w1 ⟨tv, bs, rfl, hM, hB1⟩
  obtain ⟨go, co, rfl, _, _⟩ := owns_some hM.outer (by have := HNN.out; omega)
  have h0 : Hid (RmI w w1 b tb L N go co bs (fun _ _ => 0) s) := by
    obtain ⟨_, _, _, htb, _⟩ := HT.out.cells
    exact ⟨hM.congr _ (fun _ _ _ _ => rfl), HT.out.below hB1, grown_of hB1 _, HT.out.lt, htb⟩
  have hok := hid HT.out.1
  clear hM hB1 HTB HT
  dsimp only
  go_wp2_with fail
  go_loopg [12] (s.ts.length + 1) (fun k v wr => ∃ M s', Hid (RmI w wr b tb L N go co bs M s') ∧ Hid (∀ x y, 0 ≤ M x y ∧ M x y ≤ 50) ∧ Hid (TsOk s'.ts) ∧ Hid (s'.e = 0 → s'.ts.length < k) ∧ Hid (tabG sign either n s'.ts.length M s' = Z))
  case atStart => exact ⟨_, s, h0, fun _ _ => ⟨by decide, by decide⟩, hok, fun _ => by omega, HZ⟩
  case round =>
    clear h0 hok HZ
    obtain ⟨M, s', HI, HMB, HOK, HK, HZ⟩ := hrel
    obtain ⟨W1, rfl⟩ : ∃ W : World, W = wr := ⟨_, rfl⟩
    go_wp2_with fail
    refine (q_done W1 b tb L s' HI.out.tk).mono ?_
    rintro e w2 ⟨rfl, hB2⟩
    have HI2 := hid (HI.out.below hB2)
    clear hB2 HI
    cases hmr : s'.more with
    | false =>
      have HZ2 : Hid ((M, s') = Z) := by show _ = _; rw [← HZ.out, tabG_end _ _ _ _ _ _ hmr]
      clear HZ hmr
      dsimp only
      go_wp2_with fail
      go_ret
      refine ⟨_, bs, rfl, ?_, ?_, HI2.out.g⟩
      · rw [← HZ2.out]; exact HI2.out.m
      · rw [← HZ2.out]; exact HI2.out.tk
    | true =>
      have hme := more_e hmr
      have HM0 := hid (HK.out hme.1)
      have hlz : s'.ts.length = (s'.ts.length - 1) + 1 := by have := HOK.out.1; omega
      have HLT := hid (line_ts HOK.out sign n)
      have hz := HZ.out
      rw [hlz, tabG_step _ _ _ _ _ _ hmr (s'.line sign n).1 (s'.line sign n).2 rfl] at hz
      have HZ := hid hz
      clear hz hlz hmr hme HK
      dsimp only
      go_wp2_with fail
      refine (HLN.out s' w2 HI2.out.tk).mono ?_
      rintro e w3 ⟨rfl, ht3, hg3⟩
      have HI3 := hid (HI2.out.step ht3 hg3)
      clear ht3 hg3 HI2
      generalize hp : s'.line sign n = p at *
      obtain ⟨x, s2⟩ := p
      clear hp
      have HI3 : Hid (RmI w w3 b tb L N go co bs M s2) := HI3
      have HZ : Hid ((if s2.e ≠ 0 then (M, s2) else if 50 < M (lo either x) (hi either x) + x.m then (M, s2.fail 5 x.pl) else tabG sign either n (s'.ts.length - 1) (addM M (lo either x) (hi either x) x.m) s2) = Z) := HZ
      have HLT : Hid (TsOk s2.ts ∧ s2.ts.length ≤ s'.ts.length ∧ (s2.e = 0 → s2.ts.length < s'.ts.length ∧ 0 ≤ x.a ∧ x.a ≤ n - 1 ∧ 0 ≤ x.b ∧ x.b ≤ n - 1 ∧ 1 ≤ x.m ∧ x.m ≤ 50)) := HLT
      unfold LnV
      dsimp only
      go_upto_region 4 with fail
      have HX := hid (Blk.new w3 #[.int .i64 x.a, .int .i64 x.b, .int .i64 x.m, .int .i64 x.pl] 173)
      have HI4 := hid (HI3.out.below ((Below.refl _ _).alloc (Nat.le_refl _) (.cells #[.int .i64 x.a, .int .i64 x.b, .int .i64 x.m, .int .i64 x.pl] 173)))
      have HXG : Hid (∀ i, i < N → bs i < w3.heap.size) := fun i hi => (HI3.out.m.lt i hi).2
      have HXB : Hid (b < w3.heap.size) := HI3.out.tk.lt
      clear HI3
      generalize hXX : w3.heap.size = X at *
      generalize w3.alloc (.cells #[.int .i64 x.a, .int .i64 x.b, .int .i64 x.m, .int .i64 x.pl] 173) = W4 at *
      clear hXX
      have d2 : W4.cell? ⟨b, 2, none⟩ = some (.int .i64 s2.e) := by obtain ⟨_, _, _, _, _, _, _, _, _, _, _, _, d2, _⟩ := HI4.out.tk.cells; exact d2
      have hbl := HI4.out.tk.lt
      by_cases he : s2.e = 0
      case neg =>
        have HZ2 : Hid ((M, s2) = Z) := by have h := HZ.out; rw [if_pos he] at h; exact h
        have he1 : (s2.e != 0) = true := by simpa using he
        clear HZ he
        go_wp2_with fail
        go_ret
        refine ⟨_, bs, rfl, ?_, ?_, HI4.out.g⟩
        · rw [← HZ2.out]; exact HI4.out.m
        · rw [← HZ2.out]; exact HI4.out.tk
      rw [he] at d2
      have hz := HZ.out
      rw [if_neg (by omega)] at hz
      obtain ⟨hx0, hxa, hxa', hxb, hxb', hxm, hxm'⟩ := HLT.out.2.2 he
      have HLTS := hid hx0
      have x0 : W4.cell? ⟨X, 0, none⟩ = some (.int .i64 x.a) := (HX.out.cell 0).trans rfl
      have x1 : W4.cell? ⟨X, 1, none⟩ = some (.int .i64 x.b) := (HX.out.cell 1).trans rfl
      have x2 : W4.cell? ⟨X, 2, none⟩ = some (.int .i64 x.m) := (HX.out.cell 2).trans rfl
      have x3 : W4.cell? ⟨X, 3, none⟩ = some (.int .i64 x.pl) := (HX.out.cell 3).trans rfl
      have hXl := HX.out.lt
      have hNN := HNN.out
      obtain ⟨i, hi⟩ : ∃ i : Nat, lo either x = i := ⟨(lo either x).toNat, by have : 0 ≤ lo either x := (by unfold lo; split <;> omega); omega⟩
      obtain ⟨j, hj⟩ : ∃ j : Nat, Go.Proofs.YtemmepgfngkgmaaGreatDoor.hi either x = j := ⟨(Go.Proofs.YtemmepgfngkgmaaGreatDoor.hi either x).toNat, by have : 0 ≤ Go.Proofs.YtemmepgfngkgmaaGreatDoor.hi either x := (by unfold Go.Proofs.YtemmepgfngkgmaaGreatDoor.hi; split <;> omega); omega⟩
      have hiN : i < N := by have : lo either x ≤ n - 1 := (by unfold lo; split <;> omega); omega
      have hjN : j < N := by have : Go.Proofs.YtemmepgfngkgmaaGreatDoor.hi either x ≤ n - 1 := (by unfold Go.Proofs.YtemmepgfngkgmaaGreatDoor.hi; split <;> omega); omega
      have hz : (if 50 < M (lo either x) (Go.Proofs.YtemmepgfngkgmaaGreatDoor.hi either x) + x.m then (M, s2.fail 5 x.pl) else tabG sign either n (s'.ts.length - 1) (addM M (lo either x) (Go.Proofs.YtemmepgfngkgmaaGreatDoor.hi either x) x.m) s2) = Z := hz
      rw [hi, hj] at hz
      have HZ := hid hz
      have HIJ := hid (And.intro hi hj)
      have hM := HMB.out i j
      have HXM := hid hxm
      have HE2 := hid he
      have g0 := HI4.out.m.at i hiN
      have g1 := HI4.out.m.cell i j hiN hjN
      unfold natM at g1
      have hgl := (HI4.out.m.outer.lt go rfl).2
      have hbil := (HI4.out.m.lt i hiN).2
      have HBI : Hid (bs i < X) := HXG.out i hiN
      generalize hmv : M (i : Int) (j : Int) = mv at *
      generalize hbs : bs i = bi at *
      have HBS := hid hbs
      have HMV := hid hmv
      have k1 : (0 : Int) ≤ (i : Int) := by omega
      have k2 : (0 : Int) ≤ (j : Int) := by omega
      have k3 : (i : Int) < (N : Int) := by omega
      have k4 : (j : Int) < (N : Int) := by omega
      have wm : IntKind.i64.wrap (mv + x.m) = mv + x.m := IntWalk.i64_in _ (by omega)
      clear hz hx0 hbs hmv hNN he
      have hcl : Hid (∀ W', Below W4.heap.size W4 W' → W'.cell? ⟨go, i, none⟩ = some (.slice (some ⟨bi, 0, none⟩) N N) ∧ W'.cell? ⟨bi, j, none⟩ = some (.int .i64 mv) ∧ W'.cell? ⟨X, 2, none⟩ = some (.int .i64 x.m) ∧ W'.cell? ⟨X, 0, none⟩ = some (.int .i64 x.a) ∧ W'.cell? ⟨X, 1, none⟩ = some (.int .i64 x.b) ∧ W'.cell? ⟨X, 3, none⟩ = some (.int .i64 x.pl)) := fun W' hB =>
        ⟨(hB.cell (p := ⟨go, i, none⟩) hgl).trans g0, (hB.cell (p := ⟨bi, j, none⟩) hbil).trans g1, (hB.cell (p := ⟨X, 2, none⟩) hXl).trans x2, (hB.cell (p := ⟨X, 0, none⟩) hXl).trans x0, (hB.cell (p := ⟨X, 1, none⟩) hXl).trans x1, (hB.cell (p := ⟨X, 3, none⟩) hXl).trans x3⟩
      clear g0 g1 x0 x1 x2 x3
      go_upto_region 5 with fail
      let S : World → Prop := fun W' => Hid (Below W4.heap.size W4 W')
      (refine wp_region_text 5 [0,1,2,3,4] S (by kernel_rfl) (by kernel_rfl) (by intro _ _ d _ _ h; cases d <;> exact h) ?hS ?_; rotate_left; simp only [List.map_cons, List.map_nil, List.getD_cons_zero, List.getD_cons_succ, List.drop_succ_cons, List.drop_zero])
      case hS => exact Below.drew (Below.refl _ _)
      (repeat ((refine' wpSeq_take rfl _ (by rfl) ?_ ?_; rotate_left; focus (intro w' hS; (try dsimp only at hS); obtain ⟨s1, s2, s3, s4, s5, s6⟩ := hcl.out _ hS.out; go_simp; (first | done | with_reducible rfl)); (try simp only [Act.put, List.setIfInBounds_toArray, List.set_cons_zero, List.set_cons_succ])); (try simp only [Act.put, List.setIfInBounds_toArray, List.set_cons_zero, List.set_cons_succ])))
      refine wpSeq_nil ?_
      clear S
      have HI4n := hid (HI4.out.below (Below.drew (Below.refl _ _)))
      have HXn := hid (Blk.drew HX.out)
      have hcl := hid (fun (W' : World) (hB : Below W4.drew.heap.size W4.drew W') => hcl.out W' ((Below.drew (Below.refl W4.heap.size W4)).trans hB))
      have hXl : X < W4.drew.heap.size := hXl
      have hgl : go < W4.drew.heap.size := hgl
      have hbil : bi < W4.drew.heap.size := hbil
      clear HI4 HX hbl d2
      generalize W4.drew = W4b at *
      cases either with
      | true =>
        have hA : min x.a x.b = (i : Int) := HIJ.out.1
        have hBm : max x.a x.b = (j : Int) := HIJ.out.2
        clear hi hj hxa hxa' hxb hxb'
        go_upto_region 7 with fail
        let S : World → Prop := fun W' => Hid (Below W4b.heap.size W4b W')
        (refine wp_region_text 11 [0,1,2,3,4,5,6,7,8,9,10] S (by kernel_rfl) (by kernel_rfl) (by intro _ _ d _ _ h; cases d <;> exact h) ?hS ?_; rotate_left; simp only [List.map_cons, List.map_nil, List.getD_cons_zero, List.getD_cons_succ, List.drop_succ_cons, List.drop_zero])
        case hS => exact Below.drew (Below.refl _ _)
        (repeat ((refine' wpSeq_take rfl _ (by rfl) ?_ ?_; rotate_left; focus (intro w' hS; (try dsimp only at hS); obtain ⟨s1, s2, s3, s4, s5, s6⟩ := hcl.out _ hS.out; go_simp; (first | done | with_reducible rfl)); (try simp only [Act.put, List.setIfInBounds_toArray, List.set_cons_zero, List.set_cons_succ])); (try simp only [Act.put, List.setIfInBounds_toArray, List.set_cons_zero, List.set_cons_succ])))
        refine wpSeq_nil ?_
        clear S
        have HI4nn := hid (HI4n.out.below (Below.drew (Below.refl _ _)))
        have HXnn := hid (Blk.drew HXn.out)
        have hcl := hid (fun (W' : World) (hB : Below W4b.drew.heap.size W4b.drew W') => hcl.out W' ((Below.drew (Below.refl W4b.heap.size W4b)).trans hB))
        have hXl : X < W4b.drew.heap.size := hXl
        have hgl : go < W4b.drew.heap.size := hgl
        have hbil : bi < W4b.drew.heap.size := hbil
        clear HI4n HXn
        generalize W4b.drew = W5 at *
        go_upto_region 8 with fail
        (try rw [hA, hBm])
        clear hA hBm
        have HI5 := HI4nn
        have HX5 := HXnn
        clear HI4nn HXnn
        let S : World → Prop := fun W' => Hid (Below W5.heap.size W5 W')
        (refine wp_region_text 10 [0,1,2,3,4,5,6,7,8,9] S (by kernel_rfl) (by kernel_rfl) (by intro _ _ d _ _ h; cases d <;> exact h) ?hS ?_; rotate_left; simp only [List.map_cons, List.map_nil, List.getD_cons_zero, List.getD_cons_succ, List.drop_succ_cons, List.drop_zero])
        case hS => exact Below.drew (Below.refl _ _)
        (repeat ((refine' wpSeq_take rfl _ (by rfl) ?_ ?_; rotate_left; focus (intro w' hS; (try dsimp only at hS); obtain ⟨s1, s2, s3, s4, s5, s6⟩ := hcl.out _ hS.out; go_simp; (first | done | with_reducible rfl)); (try simp only [Act.put, List.setIfInBounds_toArray, List.set_cons_zero, List.set_cons_succ])); (try simp only [Act.put, List.setIfInBounds_toArray, List.set_cons_zero, List.set_cons_succ])))
        refine wpSeq_nil ?_
        clear S
        have HI6 := hid (HI5.out.below (Below.drew (Below.refl _ _)))
        have HX6 := hid (Blk.drew HX5.out)
        have hcl := hid (fun (W' : World) (hB : Below W5.drew.heap.size W5.drew W') => hcl.out W' ((Below.drew (Below.refl W5.heap.size W5)).trans hB))
        have hXl : X < W5.drew.heap.size := hXl
        have hgl : go < W5.drew.heap.size := hgl
        have hbil : bi < W5.drew.heap.size := hbil
        clear HI5 HX5
        generalize W5.drew = W6 at *
        by_cases h50 : 50 < mv + x.m
        · have HZ2 : Hid ((M, s2.fail 5 x.pl) = Z) := by have h := HZ.out; rw [if_pos h50] at h; exact h
          obtain ⟨_, _, _, _, _, x3⟩ := hcl.out W6 (Below.refl _ _)
          have hbl6 := HI6.out.tk.lt
          go_wp2_with fail
          refine (q_fail W6 b tb L s2 HI6.out.tk 5 x.pl).mono ?_
          rintro e w7 ⟨rfl, h7, g7⟩
          have HI7 := hid (HI6.out.step h7 g7)
          clear h7 g7 HI6
          dsimp only
          go_wp2_with fail
          go_ret
          refine ⟨_, bs, rfl, ?_, ?_, HI7.out.g⟩
          · rw [← HZ2.out]; exact HI7.out.m
          · rw [← HZ2.out]; exact HI7.out.tk
        · have HZ2 : Hid (tabG sign true n (s'.ts.length - 1) (addM M i j x.m) s2 = Z) := by have h := HZ.out; rw [if_neg h50] at h; exact h
          have H50 := hid h50
          go_upto_region 10 with fail
          let S : World → Prop := fun W' => Hid (Below W6.heap.size W6 W')
          (refine wp_region_text 11 [0,1,2,3,4,5,6,7,8,9,10] S (by kernel_rfl) (by kernel_rfl) (by intro _ _ d _ _ h; cases d <;> exact h) ?hS ?_; rotate_left; simp only [List.map_cons, List.map_nil, List.getD_cons_zero, List.getD_cons_succ, List.drop_succ_cons, List.drop_zero])
          case hS => exact Below.drew (Below.refl _ _)
          (repeat ((refine' wpSeq_take rfl _ (by rfl) ?_ ?_; rotate_left; focus (intro w' hS; (try dsimp only at hS); obtain ⟨s1, s2, s3, s4, s5, s6⟩ := hcl.out _ hS.out; go_simp; (first | done | with_reducible rfl)); (try simp only [Act.put, List.setIfInBounds_toArray, List.set_cons_zero, List.set_cons_succ])); (try simp only [Act.put, List.setIfInBounds_toArray, List.set_cons_zero, List.set_cons_succ])))
          refine wpSeq_nil ?_
          clear S
          have HI7 := hid (HI6.out.below (Below.drew (Below.refl _ _)))
          obtain ⟨_, g1, _⟩ := hcl.out _ (Below.drew (Below.refl W6.heap.size W6))
          have f1 : W6.drew.frozen? ⟨bi, j, none⟩ = false := by rw [← HBS.out]; exact HI7.out.m.frozen i j hiN
          have hbil : bi < W6.drew.heap.size := hbil
          clear HI6 h50
          generalize W6.drew = W7 at *
          go_wp2_with fail
          have HI8 := hid (HI7.out.put hiN hjN x.m (mv + x.m) (by rw [HMV.out]))
          rw [HBS.out] at HI8
          go_roundg (gk - 1)
          case measure => have := HM0.out; omega
          case rel =>
            refine ⟨_, s2, HI8, addM_le HMB.out (by have := HXM.out; omega) (by rw [HMV.out]; have := H50.out; omega), HLT.out.1, fun _ => by have := HLTS.out; have := HM0.out; omega, ?_⟩
            show _ = _
            rw [← HZ2.out]
            exact tabG_fuel _ _ _ _ _ _ _ HLT.out.1 (Nat.le_refl _) (by have := HLTS.out; omega)
      | false =>
        have hA : x.a = (i : Int) := HIJ.out.1
        have hBm : x.b = (j : Int) := HIJ.out.2
        clear hi hj hxa hxa' hxb hxb'
        go_upto_region 8 with fail
        rw [hA, hBm]
        clear hA hBm
        have HI5 := HI4n
        have HX5 := HXn
        clear HI4n HXn
        obtain ⟨W5, rfl⟩ : ∃ W : World, W = W4b := ⟨_, rfl⟩
        let S : World → Prop := fun W' => Hid (Below W5.heap.size W5 W')
        (refine wp_region_text 10 [0,1,2,3,4,5,6,7,8,9] S (by kernel_rfl) (by kernel_rfl) (by intro _ _ d _ _ h; cases d <;> exact h) ?hS ?_; rotate_left; simp only [List.map_cons, List.map_nil, List.getD_cons_zero, List.getD_cons_succ, List.drop_succ_cons, List.drop_zero])
        case hS => exact Below.drew (Below.refl _ _)
        (repeat ((refine' wpSeq_take rfl _ (by rfl) ?_ ?_; rotate_left; focus (intro w' hS; (try dsimp only at hS); obtain ⟨s1, s2, s3, s4, s5, s6⟩ := hcl.out _ hS.out; go_simp; (first | done | with_reducible rfl)); (try simp only [Act.put, List.setIfInBounds_toArray, List.set_cons_zero, List.set_cons_succ])); (try simp only [Act.put, List.setIfInBounds_toArray, List.set_cons_zero, List.set_cons_succ])))
        refine wpSeq_nil ?_
        clear S
        have HI6 := hid (HI5.out.below (Below.drew (Below.refl _ _)))
        have HX6 := hid (Blk.drew HX5.out)
        have hcl := hid (fun (W' : World) (hB : Below W5.drew.heap.size W5.drew W') => hcl.out W' ((Below.drew (Below.refl W5.heap.size W5)).trans hB))
        have hXl : X < W5.drew.heap.size := hXl
        have hgl : go < W5.drew.heap.size := hgl
        have hbil : bi < W5.drew.heap.size := hbil
        clear HI5 HX5
        generalize W5.drew = W6 at *
        by_cases h50 : 50 < mv + x.m
        · have HZ2 : Hid ((M, s2.fail 5 x.pl) = Z) := by have h := HZ.out; rw [if_pos h50] at h; exact h
          obtain ⟨_, _, _, _, _, x3⟩ := hcl.out W6 (Below.refl _ _)
          have hbl6 := HI6.out.tk.lt
          go_wp2_with fail
          refine (q_fail W6 b tb L s2 HI6.out.tk 5 x.pl).mono ?_
          rintro e w7 ⟨rfl, h7, g7⟩
          have HI7 := hid (HI6.out.step h7 g7)
          clear h7 g7 HI6
          dsimp only
          go_wp2_with fail
          go_ret
          refine ⟨_, bs, rfl, ?_, ?_, HI7.out.g⟩
          · rw [← HZ2.out]; exact HI7.out.m
          · rw [← HZ2.out]; exact HI7.out.tk
        · have HZ2 : Hid (tabG sign false n (s'.ts.length - 1) (addM M i j x.m) s2 = Z) := by have h := HZ.out; rw [if_neg h50] at h; exact h
          have H50 := hid h50
          go_upto_region 10 with fail
          let S : World → Prop := fun W' => Hid (Below W6.heap.size W6 W')
          (refine wp_region_text 11 [0,1,2,3,4,5,6,7,8,9,10] S (by kernel_rfl) (by kernel_rfl) (by intro _ _ d _ _ h; cases d <;> exact h) ?hS ?_; rotate_left; simp only [List.map_cons, List.map_nil, List.getD_cons_zero, List.getD_cons_succ, List.drop_succ_cons, List.drop_zero])
          case hS => exact Below.drew (Below.refl _ _)
          (repeat ((refine' wpSeq_take rfl _ (by rfl) ?_ ?_; rotate_left; focus (intro w' hS; (try dsimp only at hS); obtain ⟨s1, s2, s3, s4, s5, s6⟩ := hcl.out _ hS.out; go_simp; (first | done | with_reducible rfl)); (try simp only [Act.put, List.setIfInBounds_toArray, List.set_cons_zero, List.set_cons_succ])); (try simp only [Act.put, List.setIfInBounds_toArray, List.set_cons_zero, List.set_cons_succ])))
          refine wpSeq_nil ?_
          clear S
          have HI7 := hid (HI6.out.below (Below.drew (Below.refl _ _)))
          obtain ⟨_, g1, _⟩ := hcl.out _ (Below.drew (Below.refl W6.heap.size W6))
          have f1 : W6.drew.frozen? ⟨bi, j, none⟩ = false := by rw [← HBS.out]; exact HI7.out.m.frozen i j hiN
          have hbil : bi < W6.drew.heap.size := hbil
          clear HI6 h50
          generalize W6.drew = W7 at *
          go_wp2_with fail
          have HI8 := hid (HI7.out.put hiN hjN x.m (mv + x.m) (by rw [HMV.out]))
          rw [HBS.out] at HI8
          go_roundg (gk - 1)
          case measure => have := HM0.out; omega
          case rel =>
            refine ⟨_, s2, HI8, addM_le HMB.out (by have := HXM.out; omega) (by rw [HMV.out]; have := H50.out; omega), HLT.out.1, fun _ => by have := HLTS.out; have := HM0.out; omega, ?_⟩
            show _ = _
            rw [← HZ2.out]
            exact tabG_fuel _ _ _ _ _ _ _ HLT.out.1 (Nat.le_refl _) (by have := HLTS.out; omega)

end Go.Proofs.YtemmepgfngkgmaaGreatDoor
