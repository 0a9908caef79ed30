/-
  Contracts of the reference for schedules: Settled, Settle.
-/
import Derived.Test.YtlhbgainpeehoaaR19d
import Derived.Deep.DeepCutAuto
import Derived.Deep.RegionHeld3
import Derived.Deep.AppendLies
namespace Go.Proofs.Ytlhbgainpeehoaa
open Go.RowKit

/-- What Settled hands back. -/
def RetSet (T0 : TypeId) (w : World) (N : Nat) (r : Option St) (e : Ending) (w' : World) : Prop :=
  Below w.heap.size w w' ∧ match r with
  | none => e = .returned (.tuple #[.slice none 0 0, .slice none 0 0, .bool false])
  | some s => ∃ b1 c1 b2 c2, e = .returned (.tuple #[.slice (some ⟨b1, 0, none⟩) N c1, .slice (some ⟨b2, 0, none⟩) N c2, .bool true]) ∧
      w'.ownsRow w.heap.size T0 1 (.slice (some ⟨b1, 0, none⟩) N c1) N ((vecOf N s.L).map (Value.int .i64)) ∧
      w'.ownsRow w.heap.size T0 1 (.slice (some ⟨b2, 0, none⟩) N c2) N ((vecOf N s.T).map (Value.int .i64))

set_option maxRecDepth 100000 in
set_option maxHeartbeats 4000000 in
theorem r21_Settled (g : G) (gv : Value) (N : Nat) (hN1 : (N : Int) ≤ g.n) (hN2 : g.n ≤ (N : Int)) (q : Int) (d : Nat → Int) (dv : Value) (picks : List Int) (pv : Value) (w : World)
    (hg : GrR w gv g) (hk : Gok g) (hd : IntsR w dv (vecOf N d)) (hp : IntsR w pv picks) (hpl : 0 < picks.length) (hpl2 : picks.length ≤ 100000) (hpp : ∀ k ∈ picks, 0 ≤ k) (hdb : ∀ u, u < N → -1048576 ≤ d u ∧ d u ≤ 1048576) :
    Calls Try.prog 55 #[gv, .int .i64 q, dv, pv] w (RetSet 3 w N (sGo g q N picks maxF 0 ⟨d, fun _ => 0⟩)) := by
  generalize hz : sGo g q N picks maxF 0 ⟨d, fun _ => 0⟩ = z
  have hzz : Hid (sGo g q N picks (maxF - 0) 0 ⟨d, fun _ => 0⟩ = z) := hz
  clear hz
  have hg' := hg
  obtain ⟨ev, rfl, _⟩ := hg'
  obtain ⟨hn1, hn2⟩ := hk.n
  obtain ⟨ad, cd, rfl, _, _, _, hcd⟩ := hd
  obtain ⟨ap, cp, rfl, _, _, _, hcp⟩ := hp
  have HLD := hid (vecOf_len N d)
  rw [HLD.out]
  obtain ⟨b, off, rfl, hb, _⟩ := hcd.int (by rw [HLD.out]; omega)
  obtain ⟨b', off', rfl, hb', hcs⟩ := hcp.int hpl
  have hW : Below w.heap.size w (w.alloc (.cells #[.int .i64 g.n, ev] 24)) := by go_grown
  go_enter Try.func55, Try.ntmps55
  go_upto_region 1 with fail
  go_cut [11, 12] (fun s11 s12 W1 => ∃ go co bs av cv, s11 = .slice (some ⟨go, 0, none⟩) N co ∧ s12 = .slice (some ⟨av, 0, none⟩) N cv ∧ OwnM 25 3 W1 (w.heap.size + 1) (.slice (some ⟨go, 0, none⟩) N co) N N bs (rowsF g) ∧
    W1.ownsRow (w.heap.size + 1) 3 1 (.slice (some ⟨av, 0, none⟩) N cv) N ((vals g N).map (Value.int .i64)) ∧ Below (w.heap.size + 1) (w.alloc (.cells #[.int .i64 g.n, ev] 24)) W1)
  case first =>
    have h0 : Below (w.heap.size + 1) (w.alloc (.cells #[.int .i64 g.n, ev] 24)) (w.alloc (.cells #[.int .i64 g.n, ev] 24)).drew := below_dN (Below.refl _ _) 1
    have hgW : Hid (∀ W', Below (w.heap.size + 1) (w.alloc (.cells #[.int .i64 g.n, ev] 24)) W' → GrR W' (.agg #[.int .i64 g.n, ev]) g) := fun W' h => hg.below (hW.trans (h.mono (by omega)))
    go_region_held3 (fun w' => w'.cell? ⟨w.heap.size, 0, none⟩ = some (.int .i64 g.n) ∧ w'.cell? ⟨w.heap.size, 1, none⟩ = some ev)
      (exact boxed _ _ _ (by assumption))
      (first
        | (go_at_call 83; refine (r19_Rows g _ N hN1 hN2 _ (hgW.out _ (by assumption)) hk).mono ?_; rintro e w1 ⟨t, bs, rfl, hM, hB1⟩; have hX1 := bext (s := w.heap.size + 1) (W0 := w.alloc (.cells #[.int .i64 g.n, ev] 24)) (by assumption) (by simp) hB1)
        | (go_at_call 84; refine (r19_Valences g _ _ (hgW.out _ (by assumption)) hk).mono ?_; rintro e w2 ⟨vv, rfl, hV, hB2⟩; have hX2 := bext (s := w.heap.size + 1) (W0 := w.alloc (.cells #[.int .i64 g.n, ev] 24)) (by assumption) (by simp) hB2))
    all_goals
      obtain ⟨go, co, rfl, _, _⟩ := owns_some hM.outer (by omega)
      have hVl : (vals g g.n.toNat).length = N := by unfold vals; rw [vecOf_len]; omega
      have hVN : vals g g.n.toNat = vals g N := by rw [show g.n.toNat = N by omega]
      rw [hVl, hVN] at hV
      obtain ⟨av, cv, rfl, _, _⟩ := owns_some hV (by omega)
      go_wp2_with fail
      go_meet
      have hs1 := hX1.size
      have hs2 := hX2.size
      simp only [World.size_alloc] at hs1 hs2
      exact ⟨go, co, bs, av, cv, rfl, rfl, (hM.below hB2).rebase (by simp), owns_base hV (by omega), hX2⟩
  case rest =>
    obtain ⟨go, co, bs, av, cv, rfl, rfl, hM, hV, hB1⟩ := hcut
    obtain ⟨W1, rfl⟩ : ∃ W : World, W = wc := ⟨_, rfl⟩
    have hBw : Below w.heap.size w W1 := hW.trans (hB1.mono (by omega))
    have hmk := run_zer (P := Try.prog) 33 3 Try.underScript Try.infoInt g.n N hN1 hN2 (by omega)
    obtain ⟨e1, e2⟩ := boxed _ _ _ hB1
    have hs1 := hB1.size
    simp only [World.size_alloc] at hs1
    obtain ⟨i0, hi, hz0, hz1, hz2⟩ := info_parts Try.infoInt
    go_upto_region 2 with fail
    go_cut [13, 14] (fun s13 s14 W2 => ∃ bl cl bt, s13 = .slice (some ⟨bl, 0, none⟩) N cl ∧ s14 = .slice (some ⟨bt, 0, none⟩) N N ∧ bl ≠ bt ∧
      W2.ownsRow W1.heap.size 3 1 (.slice (some ⟨bl, 0, none⟩) N cl) N ((vecOf N d).map (Value.int .i64)) ∧
      W2.ownsRow W1.heap.size 3 1 (.slice (some ⟨bt, 0, none⟩) N N) N ((vecOf N fun _ => 0).map (Value.int .i64)) ∧ Below W1.heap.size W1 W2)
    case first =>
      go_region_held3 (fun w' => w'.cell? ⟨w.heap.size, 0, none⟩ = some (.int .i64 g.n))
        (first | exact e1 | (refine (Below.cell (B := W1.heap.size) (w := W1) (p := ⟨w.heap.size, 0, none⟩) ?_ (by dsimp only; omega)).trans e1; go_grown; done))
        ((refine step_append_lies _ (by rfl) (.tmp 23) (.tmp 24) 26 (by rfl) W1.heap.size 3 i0 _ 1 8 Try.underDiv hi hz0 hz1 hz2 rfl (by decide) _ _ _ (by rfl) (owns_empty W1.heap.size (by simp only [heap_drew]; first | (refine heap_new' _ _ _ ?_; simp; done) | (refine (heap_old _ _ _ ?_).trans (heap_new' _ _ _ ?_) <;> simp; done)) (by go_size)) ⟨b, off, none⟩ N cd ((vecOf N d).map (Value.int .i64)) (by rfl) (by simp [HLD.out]) (fun j u h => (hcd.below (by go_grown : Below w.heap.size w _)).news j u h) (ints_oneCell' _) (by omega) (by unfold maxLen; omega) (by omega) (by go_size) _ rfl ?_; intro bl cl w2 hown hgrow hat hlt; have hX := (by go_grown : Below W1.heap.size W1 _).grown hgrow (by go_size) (fun k hk => by simp [Value.ownBlock] at hk; omega); have hXs := hX.size))
      all_goals
        simp only [Nat.zero_add, List.nil_append] at hown
        simp only [Value.ownBlock, Option.some.injEq, World.size_alloc, World.size_drew] at hat
        go_wp2_with fail
        go_meet
        refine ⟨bl, cl, _, rfl, rfl, ?_, ?_, ?_, ?_⟩
        · omega
        · first | exact hown | exact hown.alloc _
        · first
            | exact owns_zer _ (heap_new _ _) (by go_size) (by omega)
            | exact (owns_zer (N := N) W1.heap.size (by simp only [heap_drew]; first | (refine heap_new' _ _ _ ?_; simp; done) | (refine (heap_old _ _ _ ?_).trans (heap_new' _ _ _ ?_) <;> simp; done)) (by go_size) (by omega)).kept hgrow (.inr (by simp [Value.ownBlock]))
        · go_grown
    case rest =>
      obtain ⟨bl, cl, bt, rfl, rfl, hne, hL, hT, hB2⟩ := hcut
      have hvl : (vals g N).length = N := by unfold vals; rw [vecOf_len]
      have hvg : ∀ v, v < N → (vals g N)[v]?.getD 0 = valence g v := fun v h => vecOf_get _ _ _ h
      have HVL := hid hvl
      have HVG := hid hvg
      have HNT : Hid (∀ f : Nat → Int, (vecOf N f).length = N) := fun f => vecOf_len _ _
      clear hvl hvg hmk e2
      have hwait : Hid (∀ (L : Nat → Int) (W' : World), Below W1.heap.size W1 W' → W'.ownsRow W1.heap.size 3 1 (.slice (some ⟨bl, 0, none⟩) N cl) N ((vecOf N L).map (Value.int .i64)) →
          Calls Try.prog 85 #[.slice (some ⟨av, 0, none⟩) N cv, .int .i64 q, .slice (some ⟨bl, 0, none⟩) N cl] W' fun e w'' => ∃ v, e = .returned v ∧
            w''.ownsRow W1.heap.size 3 1 v (waitN g q N L).length ((waitN g q N L).map (Value.int .i64)) ∧ Below W'.heap.size W' w'') := fun L W' hb hl => by
        refine (r21_waiting (vals g N) _ q (vecOf N L) _ W' (owns_intsN (owns_below hV hb) HVL.out (by omega)) (owns_intsN hl (HNT.out L) (by omega)) (by rw [HVL.out, HNT.out L]; exact Nat.le_refl _) (by rw [HNT.out L]; omega)).mono ?_
        rintro e w'' ⟨v, rfl, ho, hb''⟩
        rw [HNT.out L, waitN_eq g q N _ L HVG.out] at ho
        exact ⟨v, rfl, owns_base ho hb.size, hb''⟩
      go_wp2_with (go_at_call 85; refine (hwait.out d _ hB2 hL).mono ?_; rintro e W3 ⟨wv, rfl, hw, hB3⟩)
      have hL3 := owns_below hL hB3
      have hT3 := owns_below hT hB3
      have hB4 : Below W1.heap.size W1 W3 := hB2.trans (hB3.mono hB2.size)
      have ok0 : okS N 1048576 0 ⟨d, fun _ => 0⟩ := ⟨fun u hu => by have := hdb u hu; dsimp only; omega, fun u hu => by dsimp only; omega⟩
      have hmf : Hid ((maxF : Int) = 1048576) := maxF_eq
      clear hL hT hB2 hB3
      go_loopw [15, 16] (fun i wv wr => ∃ (k : Nat) (s : St), k ≤ maxF ∧ i = .int .i64 k ∧ okS N 1048576 k s ∧
          wr.ownsRow W1.heap.size 3 1 wv (waitN g q N s.L).length ((waitN g q N s.L).map (Value.int .i64)) ∧
          wr.ownsRow W1.heap.size 3 1 (.slice (some ⟨bl, 0, none⟩) N cl) N ((vecOf N s.L).map (Value.int .i64)) ∧
          wr.ownsRow W1.heap.size 3 1 (.slice (some ⟨bt, 0, none⟩) N N) N ((vecOf N s.T).map (Value.int .i64)) ∧ Below W1.heap.size W1 wr ∧
          Hid (sGo g q N picks (maxF - k) k s = z))
        (fun i _ _ => maxF - (intOf i).toNat)
      case atStart => exact ⟨0, ⟨d, fun _ => 0⟩, Nat.zero_le _, rfl, ok0, hw, hL3, hT3, hB4, hzz⟩
      case round =>
        clear hw hL3 hT3 hB4 ok0
        obtain ⟨k, s, hk', rfl, hok, hw, hL, hT, hB, HZ⟩ := hrel
        by_cases hwn : waitN g q N s.L = []
        · have hz2 := HZ.out
          rw [sGo_done _ _ _ _ _ _ _ hwn] at hz2
          rw [hwn] at hw
          obtain ⟨ax, cx, rfl⟩ := owns_slice hw
          clear hwn hw hwait
          go_wp2
          go_ret3
          rw [← hz2]
          exact ⟨hBw.trans (hB.mono hBw.size), bl, cl, bt, N, rfl, owns_base hL hBw.size, owns_base hT hBw.size⟩
        · have hln : 0 < (waitN g q N s.L).length := List.length_pos_iff.2 hwn
          obtain ⟨bw, cw, rfl, _, _⟩ := owns_some hw hln
          by_cases hkm : k = maxF
          · have hz2 := HZ.out
            rw [hkm, Nat.sub_self, sGo_over _ _ _ _ _ _ hwn] at hz2
            have hkb : ((k : Int) == 1048576) = true := by rw [hkm, hmf.out]; rfl
            clear hwait
            go_wp2
            go_ret3
            rw [← hz2]
            exact ⟨hBw.trans (hB.mono hBw.size), rfl⟩
          · have hkb : ((k : Int) == 1048576) = false := by
              have := hmf.out
              rw [beq_eq_false_iff_ne]; omega
            have hkm' : k < maxF := by omega
            have hstep := hid (sGo_step g q N picks k s hwn hkm')
            have hpk := pickAt_nn picks hpp k
            have hch := chosen_bd g q N s.L (pickAt picks k) hpk hwn
            have hkl : k % picks.length < picks.length := Nat.mod_lt _ hpl
            have c1 : wr.cell? ⟨b', off' + k % picks.length, none⟩ = some (.int .i64 (pickAt picks k)) := by
              rw [(hBw.trans (hB.mono hBw.size)).cell (p := ⟨b', off' + k % picks.length, none⟩) hb']; exact hcs _ hkl
            have hm1 := Int.emod_lt_of_pos (pickAt picks k) (show (0 : Int) < ((waitN g q N s.L).length : Int) by omega)
            have hm2 := Int.emod_nonneg (pickAt picks k) (show ((waitN g q N s.L).length : Int) ≠ 0 by omega)
            have c2 := owns_int hw ((pickAt picks k) % (waitN g q N s.L).length).toNat (by omega)
            have hsp : Hid (stp g q N picks k s = fireS g (chosen (waitN g q N s.L) (pickAt picks k)).toNat s) := rfl
            change wr.cell? _ = some (.int .i64 (chosen (waitN g q N s.L) (pickAt picks k))) at c2
            obtain ⟨x, hx⟩ := Int.eq_ofNat_of_zero_le hch.1
            have hch2 := hch.2.2.2
            rw [hx] at c2 hsp hch hch2
            rw [Int.toNat_natCast] at hsp hch2
            have hwl := waitN_len g q N s.L
            generalize pickAt picks k = p at *
            generalize hWl : (waitN g q N s.L).length = wl at *
            clear hx hWl hwn hw
            have hxN : x < N := by omega
            have hmk : (maxF : Int) = 1048576 := hmf.out
            have hk20 : (k : Int) < 1048576 := by omega
            clear hmk
            have hlb := owns_lt hL
            have hltb := owns_lt hT
            have c3 := owns_int hL x hxN
            rw [vecOf_get _ _ _ hxN] at c3
            have f3 := hL.frozenAt x
            have c4 := owns_int (owns_below hV hB) x hxN
            rw [HVG.out x hxN] at c4
            have hb3 := hok.1 x hxN
            have hvb := val_bd hk x
            have ww : IntKind.i64.wrap (s.L x - valence g x) = s.L x - valence g x := IntWalk.i64_in _ (by omega)
            have k1 : (0 : Int) ≤ (x : Int) := by omega
            have k2 : (x : Int) < (N : Int) := by omega
            have hbs1 := hB.size
            go_wp2
            clear c1 c2
            let S : World → Prop := fun w' => w'.cell? ⟨bl, x, none⟩ = some (.int .i64 (s.L x)) ∧ w'.cell? ⟨av, x, none⟩ = some (.int .i64 (valence g x))
            (refine wp_region_text 9 [0,1,2,3,4,5,6,7,8] S (by kernel_rfl) (by kernel_rfl) (by intro _ _ d _ _ h; cases d <;> exact h) ?hS ?_; rotate_left; simp only [List.map_cons, List.map_nil, List.getD_cons_zero, List.getD_cons_succ, List.drop_succ_cons, List.drop_zero])
            case hS => exact ⟨c3, c4⟩
            (repeat (refine' wpSeq_take rfl _ (by rfl) ?_ ?_; rotate_left; focus (intro w' hS; (try dsimp only at hS); obtain ⟨s1, s2⟩ := hS; go_simp; (first | done | with_reducible rfl)); (try simp only [Act.put, List.setIfInBounds_toArray, List.set_cons_zero, List.set_cons_succ])))
            refine wpSeq_nil ?_
            clear S
            go_wp2
            have hL2 := owns_set (f := Value.int .i64) (owns_dN hL 1) x (s.L x - valence g x)
            rw [fireSt_start] at hL2
            have hT2 := owns_other (owns_dN hT 1) (Ne.symm hne) x (.int .i64 (s.L x - valence g x))
            have hB2 := (below_dN hB 1).setCell (p := ⟨bl, x, none⟩) (by exact hlb.1) (.int .i64 (s.L x - valence g x))
            clear hL hT hB c3 c4 f3 ww
            obtain ⟨w4, hw4⟩ : ∃ W : World, W = wr.drew.setCell ⟨bl, x, none⟩ (.int .i64 (s.L x - valence g x)) := ⟨_, rfl⟩
            have hL3 : w4.ownsRow W1.heap.size 3 1 (.slice (some ⟨bl, 0, none⟩) N cl) N ((vecOf N (fireSt g x 0 s.L)).map (Value.int .i64)) := by rw [hw4]; exact hL2
            have hT3 : w4.ownsRow W1.heap.size 3 1 (.slice (some ⟨bt, 0, none⟩) N N) N ((vecOf N s.T).map (Value.int .i64)) := by rw [hw4]; exact hT2
            have hB3 : Below W1.heap.size W1 w4 := by rw [hw4]; exact hB2
            clear hL2 hT2 hB2
            (first | rw [← hw4] | (change Code.wp _ _ _ _ (wr.drew.setCell ⟨bl, x, none⟩ (.int .i64 (s.L x - valence g x))); rw [← hw4]))
            clear hw4
            go_loopw [18] (fun i wr => ∃ u : Nat, u ≤ N ∧ i = .int .i64 u ∧
                wr.ownsRow W1.heap.size 3 1 (.slice (some ⟨bl, 0, none⟩) N cl) N ((vecOf N (fireSt g x u s.L)).map (Value.int .i64)) ∧
                wr.ownsRow W1.heap.size 3 1 (.slice (some ⟨bt, 0, none⟩) N N) N ((vecOf N s.T).map (Value.int .i64)) ∧ Below W1.heap.size W1 wr)
              (fun i _ => N - (intOf i).toNat)
            case atStart => exact ⟨0, Nat.zero_le _, rfl, hL3, hT3, hB3⟩
            case round =>
              clear hL3 hT3 hB3
              obtain ⟨u, hu, rfl, hL, hT, hB⟩ := hrel
              have e3 : wr.cell? ⟨w.heap.size, 0, none⟩ = some (.int .i64 g.n) := by rw [hB.cell (p := ⟨w.heap.size, 0, none⟩) (by dsimp only; omega)]; exact e1
              have hlb2 := owns_lt hL
              have hlt2 := owns_lt hT
              have hbs2 := hB.size
              by_cases hut : u < N
              · have hut' : (u : Int) < g.n := by omega
                have c1 := owns_int hL u hut
                rw [vecOf_get _ _ _ hut] at c1
                have f1 := hL.frozenAt u
                have c2 := (hM.below hB).at x hxN
                have c5 := (hM.below hB).cell x u hxN hut
                have hxb := fireSt_at hk hok x u hut
                have hrb := rowsF_bd hk x u
                have ww : IntKind.i64.wrap (fireSt g x u s.L u + rowsF g x u) = fireSt g x u s.L u + rowsF g x u := IntWalk.i64_in _ (by omega)
                have k3 : (0 : Int) ≤ (u : Int) := by omega
                have k4 : (u : Int) < (N : Int) := by omega
                have HF := hid (fireSt_step g N x u s.L)
                generalize bs x = bx at *
                go_wp2
                let S : World → Prop := fun w' => w'.cell? ⟨bl, u, none⟩ = some (.int .i64 (fireSt g x u s.L u)) ∧ w'.cell? ⟨go, x, none⟩ = some (.slice (some ⟨bx, 0, none⟩) N N) ∧ w'.cell? ⟨bx, u, none⟩ = some (.int .i64 (rowsF g x u))
                (refine wp_region_text 12 [0,1,2,3,4,5,6,7,8,9,10,11] S (by kernel_rfl) (by kernel_rfl) (by intro _ _ d _ _ h; cases d <;> exact h) ?hS ?_; rotate_left; simp only [List.map_cons, List.map_nil, List.getD_cons_zero, List.getD_cons_succ, List.drop_succ_cons, List.drop_zero])
                case hS => exact ⟨c1, c2, c5⟩
                (repeat (refine' wpSeq_take rfl _ (by rfl) ?_ ?_; rotate_left; focus (intro w' hS; (try dsimp only at hS); obtain ⟨s1, s2, s3⟩ := hS; go_simp; (first | done | with_reducible rfl)); (try simp only [Act.put, List.setIfInBounds_toArray, List.set_cons_zero, List.set_cons_succ])))
                refine wpSeq_nil ?_
                clear S
                go_wp2
                go_roundw
                case rel =>
                  refine ⟨u + 1, by omega, by go_num, ?_, owns_other (owns_dN hT 1) (Ne.symm hne) _ _, (below_dN hB 1).setCell (by exact hlb2.1) _⟩
                  rw [HF.out]
                  exact owns_set (f := Value.int .i64) (owns_dN hL 1) u _
                case measure => simp [intOf]; omega
              · have hut' : ¬ (u : Int) < g.n := by omega
                obtain rfl : u = N := by omega
                rw [fireSt_end] at hL
                have c1 := owns_int hT x hxN
                rw [vecOf_get _ _ _ hxN] at c1
                have f1 := hT.frozenAt x
                have htb := hok.2 x hxN
                have hok2 : okS u 1048576 (k + 1) (fireS g x s) := okS_fire hk hok x
                have hT4 := owns_set (f := Value.int .i64) hT x (s.T x + 1)
                rw [vecOf_set] at hT4
                have hT5 : (vecOf u fun i => if i = x then s.T x + 1 else s.T i) = vecOf u (fireS g x s).T := vecOf_congr _ _ _ fun i _ => by
                  show _ = if i = x then s.T i + 1 else s.T i
                  by_cases h : i = x
                  · subst h; simp
                  · simp [h]
                rw [hT5] at hT4
                have hL4 := owns_other hL hne x (.int .i64 (s.T x + 1))
                have hB4 := hB.setCell (p := ⟨bt, x, none⟩) (by exact hlt2.1) (.int .i64 (s.T x + 1))
                have hwt := hid (hwait.out (fireS g x s).L _ hB4 hL4)
                clear hT5 hok
                go_wp2_with (go_at_call 85; refine hwt.out.mono ?_; rintro e W5 ⟨wv2, rfl, hw5, hB5⟩)
                go_roundw
                case rel =>
                  refine ⟨k + 1, fireS g x s, by omega, by go_num, hok2, hw5, owns_below hL4 hB5, owns_below hT4 hB5, hB4.trans (hB5.mono hB4.size), hid ?_⟩
                  rw [← HZ.out, hstep.out, hsp.out]
                case measure => simp [intOf]; omega

end Go.Proofs.Ytlhbgainpeehoaa
