/-
  Contract of the program's schedule: run.
-/
import Derived.Test.YtlhbgainpeehoaaP11
namespace Go.Proofs.Ytlhbgainpeehoaa
open Go.RowKit

theorem StI.kept {T0 : TypeId} {f : Fr} {w w' : World} {tail : List Value} {L T : Nat → Int} (h : StI T0 f w tail L T) {p : Nat → Prop} (hK : KeptB w w' p) (p1 : ¬ p f.b) (p2 : ¬ p f.bl) (p3 : ¬ p f.bt) (p4 : ¬ p f.bv) (hB : Below f.W0.heap.size f.W0 w') : StI T0 f w' tail L T := by
  obtain ⟨l1, l2, l3, l4⟩ := h.lts
  refine ⟨?_, h.hb, owns_keptB h.left hK (fun k hk => by obtain rfl := Option.some.inj hk; exact p2), owns_keptB h.times hK (fun k hk => by obtain rfl := Option.some.inj hk; exact p3), owns_keptB h.vals hK (fun k hk => by obtain rfl := Option.some.inj hk; exact p4), h.n1, h.n2, h.n3, h.n4, h.n5, h.n6, hB, h.edges, h.gok, h.hn, h.hq⟩
  have := hK.2 f.b l1 p1
  have hb := h.blk
  unfold Blk at *
  rw [this]; exact hb
theorem grown_keptB {w w' : World} {r : Option Nat} (h : w.grownBy w' r) : KeptB w w' (fun k => r = some k) := ⟨h.size, fun k hk hne => h.block k hk (fun e => hne e.symm)⟩
theorem KeptB.cell {w w' : World} {p : Nat → Prop} (h : KeptB w w' p) (k o : Nat) (hk : k < w.heap.size) (hp : ¬ p k) : w'.cell? ⟨k, o, none⟩ = w.cell? ⟨k, o, none⟩ := by
  refine World.cell?_of_block ?_
  exact h.2 k hk hp

theorem evs_ok {g : G} {l : List (Int × Int)} (h : evsErr g l = 0) : l.length ≤ 4096 ∧ ∀ k, k < l.length → ((l[k]?.getD (0, 0)).1 = 0 ∨ (l[k]?.getD (0, 0)).1 = 1) ∧ 0 ≤ (l[k]?.getD (0, 0)).2 ∧ ((l[k]?.getD (0, 0)).1 = 1 → (l[k]?.getD (0, 0)).2 < g.n) := by
  unfold evsErr at h
  split at h
  · omega
  · refine ⟨by omega, fun k hk => ?_⟩
    have h1 := firstNZ_zero _ _ _ h k (Nat.zero_le _) (by omega)
    unfold evAt evErr vtx at h1
    generalize l[k]?.getD (0, 0) = x at *
    grind

set_option maxRecDepth 100000 in
set_option maxHeartbeats 4000000 in
theorem p_run (f : Fr) (l : List (Int × Int)) (lv : Value) (hlr : PairsR f.W0 lv l) (hev : evsErr f.g l = 0) (s0 : St) (w : World) (rv : Value) (hS : StI 3 f w [rv] s0.L s0.T) (hok : okS f.N 1048576 0 s0) :
    Calls Try.prog 44 #[.pointer (some ⟨f.b, 0, none⟩), lv] w fun e w' => ∃ v, e = .returned v ∧
      w'.ownsRow f.W0.heap.size 3 1 v l.length ((evTo f.g f.q f.N l s0 l.length).2.map (Value.int .i64)) ∧ ∃ rv, StI 3 f w' [rv] (evTo f.g f.q f.N l s0 l.length).1.L (evTo f.g f.q f.N l s0 l.length).1.T := by
  obtain ⟨a, cap, rfl, hcap, hcm, hlen, hc⟩ := hlr
  obtain ⟨hl4, hevk⟩ := evs_ok hev
  have HEV := hid hevk
  have HOK := hid (fun k => evTo_ok hS.gok f.q f.N l s0 1048576 hok k)
  have HLN := hid (fun k => evTo_len f.g f.q f.N l s0 k)
  obtain ⟨m1, m2, m3, m4⟩ := hS.lts
  have hsz := hS.below.size
  have HN := hid hS.hn
  have HG := hid hS.gok
  have hN12 := hS.N12
  have HST := hid (fun k => show (evTo f.g f.q f.N l s0 (k + 1)) = ((evStp f.g f.q f.N (l[k]?.getD (0, 0)) (evTo f.g f.q f.N l s0 k).1).1, (evTo f.g f.q f.N l s0 k).2 ++ [(evStp f.g f.q f.N (l[k]?.getD (0, 0)) (evTo f.g f.q f.N l s0 k).1).2]) from rfl)
  have hS0 : Hid (StI 3 f w [rv] (evTo f.g f.q f.N l s0 0).1.L (evTo f.g f.q f.N l s0 0).1.T) := hS
  clear hevk hev hok hS
  generalize hE : evTo f.g f.q f.N l s0 = ev at *
  clear hE
  go_enter Try.func44, Try.ntmps44
  go_wp2
  go_loopw [5, 12] (fun t i wr => ∃ (k : Nat) (rv : Value), k ≤ l.length ∧ i = .int .i64 k ∧ wr.ownsRow w.heap.size 3 1 t k ((ev k).2.map (Value.int .i64)) ∧ Hid (StI 3 f wr [rv] (ev k).1.L (ev k).1.T) ∧ w.heap.size ≤ wr.heap.size)
    (fun _ i _ => l.length - (intOf i).toNat)
  case atStart => exact ⟨0, rv, Nat.zero_le _, rfl, by have := HLN.out 0; rw [List.eq_nil_of_length_eq_zero this]; exact World.ownsRow_nil _ _ _ _, hS0, Nat.le_refl _⟩
  case round =>
    clear hS0 rv
    obtain ⟨k, rv, hkn, rfl, hown, HS, hsw⟩ := hrel
    obtain ⟨ao, co, rfl⟩ := owns_slice hown
    by_cases hlt : k < l.length
    · have hhx := HEV.out k hlt
      have hst := hid (HST.out k)
      have hbx := hid (HOK.out k)
      have hln := hid (HLN.out k)
      obtain ⟨b', off', rfl, hb', hcc⟩ := (hc.below HS.out.below).pair (by omega)
      obtain ⟨c1, c2⟩ := hcc k hlt
      have hlt' : (k : Int) < (l.length : Int) := by omega
      have hk0 : (0 : Int) ≤ (k : Int) := by omega
      clear hcc hc
      generalize l[k]?.getD (0, 0) = x at *
      obtain ⟨kd, vl⟩ := x
      dsimp only at c1 c2 hhx hst
      go_upto_if 18 with fail
      obtain ⟨W1, hW1⟩ : ∃ W : World, W = wr.alloc (.cells #[.int .i64 kd, .int .i64 vl] 64) := ⟨_, rfl⟩
      have hB1 : Below wr.heap.size wr W1 := by rw [hW1]; exact (Below.refl _ _).alloc (Nat.le_refl _) _
      have e0 : W1.cell? ⟨wr.heap.size, 0, none⟩ = some (.int .i64 kd) := by rw [hW1]; simp
      have e1 : W1.cell? ⟨wr.heap.size, 1, none⟩ = some (.int .i64 vl) := by rw [hW1]; simp
      have hlw : wr.heap.size < W1.heap.size := by rw [hW1]; simp
      rw [← hW1]
      have HS1 := hid (HS.out.mono hB1)
      have HO1 := hid (owns_below hown hB1)
      clear hW1 hB1 hown HS
      obtain ⟨l1, l2, l3, l4⟩ := HS1.out.lts
      go_cut [8] (fun t8 W2 => ∃ rv, Hid (StI 3 f W2 [rv] (ev (k + 1)).1.L (ev (k + 1)).1.T) ∧ ∃ y : Int, t8 = .int .i64 y ∧ Hid ((ev (k + 1)).2 = (ev k).2 ++ [y]) ∧ Hid (W2.ownsRow w.heap.size 3 1 (.slice ao k co) k ((ev k).2.map (Value.int .i64))) ∧ w.heap.size ≤ W2.heap.size)
      case first =>
        have hsep : Hid (∀ q, (Value.slice ao k co).ownBlock = some q → w.heap.size ≤ q) := fun q hq => (HO1.out.lt q hq).1
        by_cases hkd : kd = 1
        · have hkb : (kd == 1) = true := by rw [hkd]; rfl
          obtain ⟨V, rfl⟩ := Int.eq_ofNat_of_zero_le hhx.2.1
          have hVN : V < f.N := by have := hhx.2.2 hkd; have := HN.out; omega
          have hres : Hid (ev (k + 1) = (⟨fun u => if u = V then (ev k).1.L V + 1 else (ev k).1.L u, (ev k).1.T⟩, (ev k).2 ++ [-1])) := by
            show _ = _
            rw [hst.out]
            unfold evStp
            rw [if_pos hkd]
            simp only [Int.toNat_natCast]
            congr 2
            congr 1
            funext u
            by_cases e : u = V
            · subst e; simp
            · simp [e]
          obtain ⟨hx, hf⟩ := HS1.out.leftAt V hVN
          obtain ⟨_, _, _, c3, _⟩ := HS1.out.cells
          have hb := hbx.out.1 V hVN
          have HSL := hid (HS1.out.drew.setL V ((ev k).1.L V + 1))
          have HOL := hid (owns_keptB (HO1.out.drew) (p := fun j => j = f.bl) (w' := W1.drew.setCell ⟨f.bl, V, none⟩ (.int .i64 ((ev k).1.L V + 1))) ⟨by simp, fun j hj hne => Below.heap_setCell _ ⟨f.bl, V, none⟩ _ j hne⟩ (fun j hj e => by have := hsep.out j hj; omega))
          generalize hy : (ev k).1.L V = y at *
          have ww : IntKind.i64.wrap (y + 1) = y + 1 := IntWalk.i64_in _ (by omega)
          have hV1 : (V : Int) < (f.N : Int) := by omega
          have hV0 : (0 : Int) ≤ (V : Int) := by omega
          clear hkd hst hy c1 c2
          go_wp2
          let S : World → Prop := fun w' => w'.cell? ⟨f.b, 3, none⟩ = some (.slice (some ⟨f.bl, 0, none⟩) f.N f.cl) ∧ w'.cell? ⟨wr.heap.size, 1, none⟩ = some (.int .i64 V) ∧ w'.cell? ⟨f.bl, V, none⟩ = some (.int .i64 y)
          (refine wp_region_text 10 [0,1,2,3,4,5,6,7,8,9] S (by kernel_rfl) (by kernel_rfl) (by intro _ _ d _ _ h; cases d <;> exact h) ?hS ?_; rotate_left; simp only [List.map_cons, List.map_nil, List.getD_cons_zero, List.getD_cons_succ, List.drop_succ_cons, List.drop_zero])
          case hS => exact ⟨c3, e1, hx⟩
          (repeat (refine' wpSeq_take rfl _ (by rfl) ?_ ?_; rotate_left; focus (intro w' hS; (try dsimp only at hS); obtain ⟨s1, s2, s3⟩ := hS; go_simp; (first | done | with_reducible rfl)); (try simp only [Act.put, List.setIfInBounds_toArray, List.set_cons_zero, List.set_cons_succ])))
          refine wpSeq_nil ?_
          clear S
          go_wp2
          go_meet
          exact ⟨rv, by rw [hres.out]; exact HSL.out, -1, rfl, hid (by rw [hres.out]), HOL.out, by simp; omega⟩
        · have hkb : (kd == 1) = false := by rw [beq_eq_false_iff_ne]; exact hkd
          have hcnt := hid (p_count f W1 rv (ev k).1.L (ev k).1.T HS1.out)
          by_cases hw0 : waitN f.g f.q f.N (ev k).1.L = []
          · have hres : Hid (ev (k + 1) = ((ev k).1, (ev k).2 ++ [-1])) := by
              show _ = _
              rw [hst.out]
              unfold evStp
              rw [if_neg hkd, if_pos hw0]
            rw [hw0] at hcnt
            clear hst hw0 hkd
            go_wp2_with (go_at_call 75; refine hcnt.out.mono ?_; rintro e w2 ⟨rfl, hK, v, hS2, ho2⟩; have HK := hid hK; have HS2 := hid hS2; clear hK hS2 ho2)
            go_meet
            refine ⟨v, by rw [hres.out]; exact HS2.out, -1, rfl, hid (by rw [hres.out]), owns_keptB HO1.out HK.out (fun j hj e => ?_), ?_⟩
            · have := hsep.out j hj; omega
            · have := HK.out.1; omega
          · have hln2 : 0 < (waitN f.g f.q f.N (ev k).1.L).length := List.length_pos_iff.2 hw0
            have hch := chosen_bd f.g f.q f.N (ev k).1.L vl hhx.2.1 hw0
            have hm1 := Int.emod_lt_of_pos vl (show (0 : Int) < ((waitN f.g f.q f.N (ev k).1.L).length : Int) by omega)
            have hm2 := Int.emod_nonneg vl (show ((waitN f.g f.q f.N (ev k).1.L).length : Int) ≠ 0 by omega)
            have hres : Hid (ev (k + 1) = (fireS f.g (chosen (waitN f.g f.q f.N (ev k).1.L) vl).toNat (ev k).1, (ev k).2 ++ [chosen (waitN f.g f.q f.N (ev k).1.L) vl])) := by
              show _ = _
              rw [hst.out]
              unfold evStp
              rw [if_neg hkd, if_neg hw0]
            obtain ⟨X, hX⟩ := Int.eq_ofNat_of_zero_le hch.1
            rw [hX] at hch hres
            have hXN : X < f.N := by omega
            have hpm : vl.tmod ((waitN f.g f.q f.N (ev k).1.L).length : Int) = vl % ((waitN f.g f.q f.N (ev k).1.L).length : Int) := Int.tmod_eq_emod_of_nonneg hhx.2.1
            have hcell : Hid (∀ (w2 : World) (br cr : Nat), w2.ownsRow f.W0.heap.size 3 1 (.slice (some ⟨br, 0, none⟩) (waitN f.g f.q f.N (ev k).1.L).length cr) (waitN f.g f.q f.N (ev k).1.L).length ((waitN f.g f.q f.N (ev k).1.L).map (Value.int .i64)) →
                w2.cell? ⟨br, (vl % ((waitN f.g f.q f.N (ev k).1.L).length : Int)).toNat, none⟩ = some (.int .i64 X)) := fun w2 br cr ho => by
              rw [owns_int ho _ (by omega)]
              rw [← hX]; rfl
            have htk : Hid (∀ (w2 : World) (br cr : Nat), StI 3 f w2 [.slice (some ⟨br, 0, none⟩) (waitN f.g f.q f.N (ev k).1.L).length cr] (ev k).1.L (ev k).1.T → w2.ownsRow f.W0.heap.size 3 1 (.slice (some ⟨br, 0, none⟩) (waitN f.g f.q f.N (ev k).1.L).length cr) (waitN f.g f.q f.N (ev k).1.L).length ((waitN f.g f.q f.N (ev k).1.L).map (Value.int .i64)) →
                Calls Try.prog 76 #[.pointer (some ⟨f.b, 0, none⟩), .int .i64 (vl % ((waitN f.g f.q f.N (ev k).1.L).length : Int))] w2 fun e w' => e = .returned (.tuple #[]) ∧
                  StI 3 f w' [.slice (some ⟨br, 0, none⟩) (waitN f.g f.q f.N (ev k).1.L).length cr] (ev (k + 1)).1.L (ev (k + 1)).1.T ∧ KeptB w2 w' (fun k => k = f.bl ∨ k = f.bt)) := fun w2 br cr h2 ho => by
              have := p_take f w2 br (waitN f.g f.q f.N (ev k).1.L).length cr X (vl % ((waitN f.g f.q f.N (ev k).1.L).length : Int)).toNat (ev k).1.L (ev k).1.T h2 (owns_lt ho).2 (by omega) (hcell.out w2 br cr ho) hXN (fun u hu => by have := hbx.out.1 u hu; omega) (by have := hbx.out.2 X hXN; omega)
              rw [Int.toNat_of_nonneg hm2] at this
              rw [hres.out, Int.toNat_natCast]
              exact this
            have hres2 : Hid ((ev (k + 1)).2 = (ev k).2 ++ [(X : Int)]) := by show _ = _; rw [hres.out]
            generalize (waitN f.g f.q f.N (ev k).1.L).length = n at *
            clear hst hw0 hkd hres hch hX
            have hn0 : ¬ n = 0 := by omega
            go_wp2_with (go_at_call 75; refine hcnt.out.mono ?_; rintro e w2 ⟨rfl, hK, v, hS2, ho2⟩; obtain ⟨br, cr, rfl, _, hbr⟩ := owns_some ho2 hln2; have d6 := (hS2.tailAt 0).1; (change w2.cell? ⟨f.b, 6, none⟩ = some (.slice (some ⟨br, 0, none⟩) n cr) at d6); have de := (hK.cell wr.heap.size 1 hlw (by omega)).trans e1; have dc := hcell.out w2 br cr ho2; have HK := hid hK; have HS2 := hid hS2; have HO2 := hid ho2; have hl2 := hS2.lts.1; clear hK hS2 ho2)
            go_quiet (fail)
            go_wp2_with (go_at_call 76; refine (htk.out _ br cr (HS2.out.mono (below_dN (Below.refl _ _) _)) (owns_dN HO2.out _)).mono ?_; rintro e w3 ⟨rfl, hS3, hK3⟩; have HS3 := hid hS3; have HK3 := hid hK3; clear hS3 hK3)
            go_meet
            refine ⟨_, HS3, X, rfl, hres2, owns_keptB (owns_dN (owns_keptB HO1.out HK.out (fun j hj e => ?_)) nq) HK3.out (fun j hj e => ?_), ?_⟩
            · have := hsep.out j hj; omega
            · have := hsep.out j hj; omega
            · have h1 := HK.out.1
              have h2 : w2.heap.size ≤ w3.heap.size := HK3.out.1
              omega
      case rest =>
        obtain ⟨rv2, HS2, y, rfl, hy, HO2, hsw2⟩ := hcut
        obtain ⟨W2, rfl⟩ : ∃ W : World, W = wc := ⟨_, rfl⟩
        have ho2 : W2.ownsRow w.heap.size 3 1 (.slice ao k co) (ev k).2.length ((ev k).2.map (Value.int .i64)) := by rw [hln.out]; exact HO2.out
        have HOR := hid ho2
        have hlk := hln.out
        clear ho2 HO1 HS1 hst e0 e1 c1 c2
        go_wp2_with (at_builtin; refine wpList_app1 W2 rfl _ _ 25 rfl 3 Try.underInts Try.infoInt w.heap.size _ (ev k).2 HOR.out y W2.heap.size rfl rfl rfl (by omega) hsw2 ?_; intro v' w2 hown2 hgr2 hbk; have HO3 := hid hown2; have HGR := hid hgr2; have HBK := hid hbk; clear hown2 hgr2 hbk)
        go_roundw
        case rel =>
          have hsz2 := HGR.out.size
          refine ⟨k + 1, rv2, by omega, by go_num, ?_, ?_, by omega⟩
          · have := HO3.out
            rw [List.length_append, hlk] at this
            rw [hy.out]
            exact this
          · refine HS2.out.kept (grown_keptB HGR.out) (fun e => ?_) (fun e => ?_) (fun e => ?_) (fun e => ?_) (HS2.out.below.grown HGR.out (by omega) (fun j hj => by have := HBK.out j hj; omega))
            all_goals (have := HBK.out _ e; omega)
        case measure => simp [intOf]; omega
    · obtain rfl : k = l.length := by omega
      go_wp2
      go_ret
      exact ⟨_, rfl, owns_base hown hsz, rv, HS.out⟩

end Go.Proofs.Ytlhbgainpeehoaa
