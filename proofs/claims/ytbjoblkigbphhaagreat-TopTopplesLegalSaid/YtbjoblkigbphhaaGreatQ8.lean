/-
  Contract of the parallel game: played, until it is stable.
-/
import Derived.Test.YtbjoblkigbphhaaGreatQ7
namespace Go.Proofs.YtbjoblkigbphhaaGreat
set_option linter.unusedSimpArgs false
set_option linter.unusedVariables false
open Go.RowKit Go.Shelf
attribute [local go_sem] Oper.semAt_some

def frP (gc : Value) (q : Int) (dv : Value) (bg bk r8 r9 r10 r11 b : Nat) (v13 v14 v15 v16 v25 v26 v27 v28 v29 : Value) : Act := { tmps := #[gc, (.int .i64 q), dv, (.int .i64 (-1)), (.pointer (some ⟨bg, 0, none⟩)), undef, undef, (.pointer (some ⟨bk, 0, none⟩)), (.pointer (some ⟨r8, 0, none⟩)), (.pointer (some ⟨r9, 0, none⟩)), (.pointer (some ⟨r10, 0, none⟩)), (.pointer (some ⟨r11, 0, none⟩)), (.pointer (some ⟨b, 0, none⟩)), v13, v14, v15, v16, undef, undef, undef, undef, undef, gc, (.int .i64 q), (.pointer (some ⟨b, 0, none⟩)), v25, v26, v27, v28, v29, undef, undef, undef, undef, undef, undef, undef, undef, undef, undef, undef, undef, undef, undef, undef, undef, undef, undef, undef, undef, undef, undef, undef, undef, undef, undef, undef, undef, undef, undef, undef, undef, undef, undef, undef, undef, undef, undef], defers := [] }
theorem rep_false (n k : Nat) : (Array.replicate n false).getD k false = false := by
  rw [Array.getD_eq_getD_getElem?]; by_cases h : k < n <;> simp [h]

set_option maxRecDepth 100000 in
set_option maxHeartbeats 8000000 in
theorem q_played (g : G) (gv : Value) (q : Int) (ds : List Int) (dv : Value) (N : Nat) (w : World) (hg : GrR w gv g) (hk : Gok g) (hd : IntsR w dv ds) (hN1 : (N : Int) ≤ g.n) (hN2 : g.n ≤ (N : Int)) (hdl : ds.length = N)
    (hb : ∀ u, u < N → -1000000000 ≤ dOf ds u ∧ dOf ds u ≤ 1000000000) :
    Calls Tryz.prog 38 #[gv, .int .i64 q, dv, .int .i64 (-1)] w (RetPl g q N ds w) := by
  have hg' := hg
  obtain ⟨ev, rfl, a, cap, rfl, _⟩ := hg'
  have hd' := hd
  obtain ⟨da, dc, rfl, _⟩ := hd'
  obtain ⟨hn1, hn2⟩ := hk.n
  have hN0 : 0 < N := by omega
  have hN12 : N ≤ 12 := by omega
  have HGN : Hid (g.n = (N : Int)) := by show _ = _; omega
  refine (callsIn_wide (n := 5)).1 ?_
  have hro : Fence.wide.round = none := rfl
  refine callsIn_of_wp_marks Tryz.func38 rfl trivial ?_ hro
  simp only [Tryz.ntmps38, List.size_toArray, List.length_cons, List.length_nil, Nat.reduceAdd, Nat.reduceSub, Array.replicate_succ, Array.replicate_zero, List.push_toArray, List.append_toArray, List.nil_append, List.cons_append]
  refine wpIn_wide.2 ?_
  go_wp2_with fail
  obtain ⟨W0, bg, bk, r8, r9, r10, r11, e0, e1, e2, e3, e4, e5, e6, hpb, hB0, hr11⟩ := pb_new w #[.int .i64 g.n, .slice a g.es.length cap]
  rw [← e0, ← e6, ← e5, ← e4, ← e3, ← e2, ← e1]
  have HPB0 := hid hpb
  have HB0 := hid hB0
  have HE1 := hid e1
  clear e0 e1 e2 e3 e4 e5 e6 hpb
  have HD := hid (hd.below hB0)
  have HG := hid (hg.below hB0)
  refine (q_of g _ N hN1 hN2 q W0 HG.out hk).mono ?_
  rintro e W1 ⟨b, bv, go, bs, rfl, hbd, hB1⟩
  have HBD := hid hbd
  have HPB := hid (HPB0.out.below hB1)
  have HD1 := hid (HD.out.below hB1)
  have HB1 := hid (HB0.out.trans (hB1.mono hB0.size))
  have hs1 : W0.heap.size ≤ W1.heap.size := hB1.size
  clear hbd hB1 hB0 HG HD HPB0 HB0
  go_upto_region 2 with fail
  rename_i K hK
  refine wp_region_any (by kernel_rfl) ?_
  refine wpAny_inv (fun L a' w' => ∃ v13 v14 v15 v16 v25 v26 v27 v28 v29, a' = frP (.agg #[.int .i64 g.n, .slice a g.es.length cap]) q (.slice da N dc) bg bk r8 r9 r10 r11 b v13 v14 v15 v16 v25 v26 v27 v28 v29 ∧ PInv W1 (.slice da N dc) ds N bg L v13 v14 v15 v16 v25 v26 v27 v28 v29 w') ?step ?fin _ _ _ _ (by simp) ⟨undef, undef, undef, undef, undef, undef, undef, undef, undef, rfl, PInv.init rfl (fun k => rep_false 13 k) (Below.drew (Below.refl _ _))⟩
  case step =>
    clear hK
    rintro L a' w2 i ⟨v13, v14, v15, v16, v25, v26, v27, v28, v29, rfl, hI⟩ hi
    have hun := ready_un hi
    have HI := hid hI
    have HD2 := hid (HD1.out.below hI.bel)
    have cg : w2.cell? ⟨bg, 0, none⟩ = some (.int .i64 N) := by rw [← HGN.out]; exact (HPB.out.g.below hI.bel).cell 0
    clear hI
    have hilt : i < 13 := ready_lt hi
    obtain rfl | rfl | rfl | rfl | rfl | rfl | rfl | rfl | rfl | rfl | rfl | rfl | rfl := (show i = 0 ∨ i = 1 ∨ i = 2 ∨ i = 3 ∨ i = 4 ∨ i = 5 ∨ i = 6 ∨ i = 7 ∨ i = 8 ∨ i = 9 ∨ i = 10 ∨ i = 11 ∨ i = 12 by omega)
    · refine wpOp_one rfl ?_ rfl
      unfold frP
      go_wp2_with fail
      exact ⟨_, _, _, _, _, _, _, _, _, rfl, HI.out.op0⟩
    · obtain rfl := HI.out.h0 (ready_dep hi (by kernel_rfl))
      refine wpOp_one rfl ?_ rfl
      unfold frP
      go_wp2_with fail
      have hcl := c_Clone ds _ w2 HD2.out (by omega)
      rw [hdl] at hcl
      refine hcl.mono ?_
      rintro e w3 ⟨cb, cc, rfl, hown, hB3⟩
      dsimp only
      go_wp2_with fail
      exact ⟨_, _, _, _, _, _, _, _, _, rfl, HI.out.op1 hun hB3 hown⟩
    · refine wpOp_one rfl ?_ rfl
      unfold frP
      go_wp2_with fail
      exact ⟨_, _, _, _, _, _, _, _, _, rfl, HI.out.op2⟩
    · obtain rfl := HI.out.h2 (ready_dep hi (by kernel_rfl))
      refine wpOp_one rfl ?_ rfl
      unfold frP
      go_wp2_with fail
      exact ⟨_, _, _, _, _, _, _, _, _, rfl, HI.out.op3⟩
    · obtain rfl := HI.out.h3 (ready_dep hi (by kernel_rfl))
      have hmk := run_zer (P := Tryz.prog) 27 3 Tryz.underScript Tryz.infoInt N N (Int.le_refl _) (Int.le_refl _) (by omega)
      refine wpOp_one rfl ?_ rfl
      unfold frP
      go_wp2_with fail
      exact ⟨_, _, _, _, _, _, _, _, _, rfl, HI.out.op4 hun (by go_grown) (ownZ rfl (Nat.le_refl _) (by omega))⟩
    · have hun9 : ¬ L.getD 9 false = true := fun h => hun (HI.out.d95 h)
      refine wpOp_one rfl ?_ rfl
      unfold frP
      go_wp2_with fail
      exact ⟨_, _, _, _, _, _, _, _, _, rfl, HI.out.op5 (fun h => hun9 h) _⟩
    · have hun9 : ¬ L.getD 10 false = true := fun h => hun (HI.out.d106 h)
      refine wpOp_one rfl ?_ rfl
      unfold frP
      go_wp2_with fail
      exact ⟨_, _, _, _, _, _, _, _, _, rfl, HI.out.op6 (fun h => hun9 h) _⟩
    · refine wpOp_one rfl ?_ rfl
      unfold frP
      go_wp2_with fail
      exact ⟨_, _, _, _, _, _, _, _, _, rfl, HI.out.op7⟩
    · refine wpOp_one rfl ?_ rfl
      unfold frP
      go_wp2_with fail
      exact ⟨_, _, _, _, _, _, _, _, _, rfl, HI.out.op8⟩
    · obtain ⟨cb, cc, rfl, _⟩ := HI.out.h1 (ready_dep hi (by kernel_rfl))
      obtain ⟨bb, rfl, hle, u, hbx, _⟩ := HI.out.h5 (ready_dep hi (by kernel_rfl))
      have c1 := hbx.cell
      have f1 := hbx.frozen
      have l1 := hbx.lt
      have HBX := hid hbx
      clear hbx
      refine wpOp_one rfl ?_ rfl
      unfold frP
      go_wp2_with fail
      exact ⟨_, _, _, _, _, _, _, _, _, rfl, HI.out.op9 (ready_dep hi (by kernel_rfl)) (ready_dep hi (by kernel_rfl)) rfl hle HBX.out⟩
    · obtain ⟨cb, rfl, _⟩ := HI.out.h4 (ready_dep hi (by kernel_rfl))
      obtain ⟨bb, rfl, hle, u, hbx, _⟩ := HI.out.h6 (ready_dep hi (by kernel_rfl))
      have c1 := hbx.cell
      have f1 := hbx.frozen
      have l1 := hbx.lt
      have HBX := hid hbx
      clear hbx
      refine wpOp_one rfl ?_ rfl
      unfold frP
      go_wp2_with fail
      exact ⟨_, _, _, _, _, _, _, _, _, rfl, HI.out.op10 (ready_dep hi (by kernel_rfl)) (ready_dep hi (by kernel_rfl)) rfl hle HBX.out⟩
    · obtain ⟨bb, rfl, hle, hbx⟩ := HI.out.h7 (ready_dep hi (by kernel_rfl))
      have c1 := hbx.cell
      have f1 := hbx.frozen
      have l1 := hbx.lt
      have HBX := hid hbx
      clear hbx
      refine wpOp_one rfl ?_ rfl
      unfold frP
      go_wp2_with fail
      exact ⟨_, _, _, _, _, _, _, _, _, rfl, HI.out.op11 (ready_dep hi (by kernel_rfl)) rfl hle HBX.out⟩
    · obtain ⟨bb, rfl, hle, hbx⟩ := HI.out.h8 (ready_dep hi (by kernel_rfl))
      have c1 := hbx.cell
      have f1 := hbx.frozen
      have l1 := hbx.lt
      have HBX := hid hbx
      clear hbx
      refine wpOp_one rfl ?_ rfl
      unfold frP
      go_wp2_with fail
      exact ⟨_, _, _, _, _, _, _, _, _, rfl, HI.out.op12 (ready_dep hi (by kernel_rfl)) rfl hle HBX.out⟩
  case fin =>
    rintro L a' w2 ⟨v13, v14, v15, v16, v25, v26, v27, v28, v29, rfl, hI⟩ hr
    have hall := ready_nil_all (by kernel_rfl) hI.sz hr
    obtain ⟨b13, b14, b15, b16, cb, cc, zb, rfl, rfl, rfl, rfl, hPL⟩ := hI.out (fun k hk => hall k hk)
    refine hK _ _ ?_
    clear hK hI hr hall
    have HPL := hid hPL
    clear hPL
    unfold frP
    go_wp2_with fail
    refine (q_rounds b da N dc w2).mono ?_
    rintro e w3 ⟨rfl, hw3⟩
    have HBx := hid ((Boxed.new w2 113 (.pointer (some ⟨b, 0, none⟩))).alloc (.cells #[.slice da N dc] 26))
    have HDx := hid (Boxed.new (w2.alloc (.cells #[.pointer (some ⟨b, 0, none⟩)] 113)) 26 (.slice da N dc))
    have HB23 : Hid (Below w2.heap.size w2 w3) := by rw [hw3]; show Below _ _ _; go_grown
    have hs3 : w3.heap.size = w2.heap.size + 2 := by rw [hw3]; simp
    rw [← hw3] at HBx HDx
    rw [World.size_alloc] at HDx
    clear hw3
    dsimp only
    go_wp2_with fail
    refine (wpIn_wide (n := 5)).1 ?_
    rename_i K2 hK2
    have hPL := HPL.out
    have hpb3 := ((HPB.out.below hPL.bel).below HB23.out)
    have ho := hpb3.o
    have lz := owns_lt hPL.srow
    have l13 := hPL.out.lt
    have l14 := hPL.s.lt
    have l15 := hPL.n.lt
    have l16 := hPL.f.lt
    have HPO : Hid (PO r11 b13 b14 b15 b16 zb (w2.heap.size + 1)) := ⟨by have := hPL.l13; have := hPL.l14; have := hPL.l15; have := hPL.l16; omega, by omega, hPL.n78, hPL.n47, hPL.n48⟩
    have hB13 := hPL.bel.trans (HB23.out.mono hPL.bel.size)
    have hbd3 := HBD.out.mono hB13
    have hd1 := HD1.out
    rw [hdl] at hd1
    have hd3 : IntsR w3 (.slice da N dc) (vecOf N (s0Of ds).L) := by
      show IntsR w3 (.slice da N dc) (vecOf N (dOf ds))
      rw [vec_dOf hdl]
      exact hd1.below hB13
    have HSEQ := hid (q_rounds1 (5 - 1) (by omega) g hk q N hN0 hN12 (s0Of ds) hb w3 W0.heap.size b bv go bs hbd3 w2.heap.size (w2.heap.size + 1) (.slice da N dc) HBx.out HDx.out hd3
      (fun k => k = b13 ∨ k = b15 ∨ k = b16 ∨ k = zb) (by
        have k1 := HBD.out.blk.lt
        have k2 := (owns_lt HBD.out.vals).2
        have k3 := (owns_lt HBD.out.rows.outer).2
        have k4 := fun i hi => (owns_lt (HBD.out.rows.row i hi)).2
        have := hPL.l13; have := hPL.l15; have := hPL.l16
        intro k hk
        refine ⟨by omega, by omega, by omega, by omega, fun i hi => by have := k4 i hi; omega, by omega, by omega⟩)
      (ints_off (p := fun k => (k = b13 ∨ k = b15 ∨ k = b16 ∨ k = zb) ∨ k = w2.heap.size + 1) hd1 (by rw [hdl]; exact hN0) (by have := hPL.l13; have := hPL.l15; have := hPL.l16; have := hPL.bel.size; intro k hk; omega)) w.heap.size 1048576 (by omega))
    have hww : w.heap.size ≤ W1.heap.size := HB1.out.size
    have HI0 : Hid (PI g q N ds w bg bk r8 r9 r10 r11 b13 b14 b15 b16 zb (w2.heap.size + 1) #[.int .i64 g.n, .slice a g.es.length cap] [] w3) := by
      refine ⟨hpb3, ⟨_, _, boxed_below hPL.out HB23.out, ?_, ?_⟩, boxed_below hPL.s HB23.out, ?_, boxed_below hPL.n HB23.out, ?_, fun i hi => by simp at hi, ?_, ?_⟩
      · have := owns_base (owns_below hPL.row HB23.out) (show r11 + 1 ≤ W1.heap.size by omega)
        show World.ownsRow _ _ _ _ _ _ ((vecOf N (dOf ds)).map _)
        rw [vec_dOf hdl]; exact this
      · intro a' n' c' e hpk
        injection e with e _ _
        injection e with e
        subst e
        have := hPL.n14; have := hPL.n17; have := hPL.n18
        have := (owns_lt hPL.row).2
        dsimp only at hpk
        omega
      · exact owns_base (owns_below hPL.srow HB23.out) hww
      · show Boxed _ _ _ (.int .i64 (sumTo (fun _ => 0) N))
        rw [sumTo_nil]; exact boxed_below hPL.f HB23.out
      · show sumTo (fun _ => 0) N ≤ _
        rw [sumTo_nil]; decide
      · exact HB1.out.trans (hB13.mono hww)
    have HWW : Hid (w.heap.size ≤ w3.heap.size) := by show _ ≤ _; have := hPL.bel.size; omega
    have HW2 : Hid (w.heap.size ≤ w2.heap.size + 1) := by show _ ≤ _; have := hPL.bel.size; omega
    have HLZ : Hid (b13 < w3.heap.size ∧ zb < w3.heap.size ∧ b15 < w3.heap.size ∧ b16 < w3.heap.size) := by show _ ∧ _; omega
    clear hPL hd1 hpb3 ho lz l13 l14 l15 l16 hB13 hbd3 hd3 hww HPL
    refine wpIn_rangeX hro (by omega) (gf := 86) (lb := #[.pointer (some ⟨w2.heap.size, 0, none⟩), .pointer (some ⟨w2.heap.size + 1, 0, none⟩)]) rfl trivial (enters_of Tryz.func86 (by kernel_rfl) rfl)
      HSEQ.out HDx.out.lt KeptC.trans (KeptC.book HWW.out) (fun _ => rfl) (fun pre W => PI g q N ds w bg bk r8 r9 r10 r11 b13 b14 b15 b16 zb (w2.heap.size + 1) #[.int .i64 g.n, .slice a g.es.length cap] pre W) (fun c pre W => c = .ret ∧ PX g q N ds w bg bk r8 r9 r10 r11 b13 b14 b15 b16 zb (w2.heap.size + 1) #[.int .i64 g.n, .slice a g.es.length cap] pre W)
      (fun pre W W' row hs hg hr => hs.keptC HPO.out (keptC_grown hg (fun r e => ⟨Nat.le_trans HWW.out (hr r e).1, (hr r e).2⟩) hs.bel.size) (fun k h => h.elim))
      (fun c pre W W' row hs hg hr => ⟨hs.1, hs.2.keptC HPO.out (keptC_grown hg (fun r e => ⟨Nat.le_trans HWW.out (hr r e).1, (hr r e).2⟩) hs.2.bel.size) (fun k h => h.elim)⟩)
      (fun pre X v hs => hs.keptC HPO.out ((KeptC.set X _ v).weaken HW2.out (fun k h => h)) (fun k h => h))
      (fun pre X hs => by have h1 := goesN_le hs.goes; have h2 := hs.le; rw [maxF_eq] at h2; omega)
      (fun pre => ex_own _ _ _ _ _ _ pre) HI0.out
      (fun x => { tmps := #[(.agg #[.int .i64 g.n, .slice a g.es.length cap]), (.int .i64 q), (.slice da N dc), (.int .i64 (-1)), (.pointer (some ⟨bg, 0, none⟩)), undef, undef, (.pointer (some ⟨bk, 0, none⟩)), (.pointer (some ⟨r8, 0, none⟩)), (.pointer (some ⟨r9, 0, none⟩)), (.pointer (some ⟨r10, 0, none⟩)), (.pointer (some ⟨r11, 0, none⟩)), (.pointer (some ⟨b, 0, none⟩)), (.pointer (some ⟨b13, 0, none⟩)), (.pointer (some ⟨b14, 0, none⟩)), (.pointer (some ⟨b15, 0, none⟩)), (.pointer (some ⟨b16, 0, none⟩)), x.1, x.2, undef, undef, undef, (.agg #[.int .i64 g.n, .slice a g.es.length cap]), (.int .i64 q), (.pointer (some ⟨b, 0, none⟩)), v25, v26, v27, v28, v29, (.pointer (some ⟨b, 0, none⟩)), (.slice da N dc), (.func (.func 86) #[] #[.pointer (some ⟨w2.heap.size, 0, none⟩), .pointer (some ⟨w2.heap.size + 1, 0, none⟩)]), x.1, x.2, undef, undef, undef, undef, undef, undef, undef, undef, undef, undef, undef, undef, undef, undef, undef, undef, undef, undef, undef, undef, undef, undef, undef, undef, undef, undef, undef, undef, undef, undef, undef, undef, undef], defers := [] }) ?assign ?body ?done ?stop
    case assign =>
      rintro l x W K hK
      gi_wp2
      exact hK
    case body =>
      clear HI0 HSEQ hK2
      rintro l pre ⟨x1, x2⟩ W hI ⟨hne, hr1, hr2⟩
      dsimp only at hr1 hr2 ⊢
      obtain ⟨la, lc, rfl⟩ := owns_slice hr1
      obtain ⟨xa, xc, rfl⟩ := owns_slice hr2
      have HI := hid hI
      have HNE := hid hne
      have HR1 := hid hr1
      have HR2 := hid hr2
      have HSR := hid hI.srow
      have HOU := hid hI.out
      have HNEX := hid (fun (W4 W5 : World) (S : Int) => PI.next (W4 := W4) (W5 := W5) hI HPO.out hne (.slice la (rdyN g q N (rndTo g q N (s0Of ds) pre.length).L).length lc) hr2 (by omega) (S := S))
      have HSTP := hid (fun (S : Int) => PI.stop hI HPO.out hne (Value.slice la (rdyN g q N (rndTo g q N (s0Of ds) pre.length).L).length lc, Value.slice xa N xc) (S := S))
      have HTT := hid (rnd_T g q N (rndTo g q N (s0Of ds) pre.length))
      have HNN := hid hI.n
      have c15 := hI.n.cell
      have c7 := hI.pb.k.cell
      have c16 := hI.f.cell
      have f16 := hI.f.frozen
      have l16 := hI.f.lt
      have HSS := hid (rnd_sum g q N (rndTo g q N (s0Of ds) pre.length))
      have hsn := rndTo_sum_ge g q N (s0Of ds) pre.length hI.goes pre.length (Nat.le_refl _)
      have hgl := goesN_le hI.goes
      have hle := hI.le
      rw [maxF_eq] at hle
      have HLE := hid (rdy_len g q N (rndTo g q N (s0Of ds) pre.length).L)
      have hln12 : ((rdyN g q N (rndTo g q N (s0Of ds) pre.length).L).length : Int) ≤ 12 := by have := HLE.out; omega
      have HLR : Hid (∀ v ∈ rdyN g q N (rndTo g q N (s0Of ds) pre.length).L, ∃ u : Nat, v = u ∧ u < N) := fun v hv => by obtain ⟨u, h1, h2, _⟩ := rdy_mem g q N _ v hv; exact ⟨u, h1, h2⟩
      clear hI hne hr1 hr2 hsn
      generalize hRL : rdyN g q N (rndTo g q N (s0Of ds) pre.length).L = RL at *
      have HRL := hid hRL
      clear hRL
      have HS0 : Hid (sumTo (rndTo g q N (s0Of ds) pre.length).T N = sumTo (rndTo g q N (s0Of ds) pre.length).T N) := rfl
      generalize hSm : sumTo (rndTo g q N (s0Of ds) pre.length).T N = Sm at *
      have HSM := hid hSm
      clear hSm HS0
      have HPL : Hid (pre.length = pre.length) := rfl
      generalize hkp : pre.length = kp at *
      have HKP := hid hkp
      clear hkp HPL
      have wS : IntKind.i64.wrap (Sm + (RL.length : Int)) = Sm + (RL.length : Int) := IntWalk.i64_in _ (by omega)
      have hne1 : ((kp : Int) == -1) = false := by simp
      have hne2 : ¬ ((kp : Int) = -1) := by omega
      have HGL := hid hgl
      have HLS := hid hle
      have HL12 := hid hln12
      clear hgl hle hln12
      have HT : Hid (∀ u, u < N → 0 ≤ (rndTo g q N (s0Of ds) kp).T u ∧ (rndTo g q N (s0Of ds) kp).T u ≤ 1048576) := fun u hu => by
        have h1 := rndTo_nn g q N ds kp u
        have h2 := sumTo_ge _ (rndTo_nn g q N ds kp) N u hu
        have h3 := HLS.out; have h4 := HSM.out
        omega
      have HS3 := hid hs3
      clear hne2 hN1 hN2 hdl hn1 hn2 hs1 hs3 hb hr11 HW2
      have HN0 := hid hN0
      have HN12 := hid hN12
      clear hN0 hN12
      by_cases hov : 1048576 < Sm + (RL.length : Int)
      · have f8 := HI.out.pb.b8.frozen
        have f9 := HI.out.pb.b9.frozen
        have f10 := HI.out.pb.b10.frozen
        have f11 := HI.out.pb.b11.frozen
        have c8 := HI.out.pb.b8.cell
        have c9 := HI.out.pb.b9.cell
        have c10 := HI.out.pb.b10.cell
        have c11 := HI.out.pb.b11.cell
        have l8 := HI.out.pb.b8.lt
        have l9 := HI.out.pb.b9.lt
        have l10 := HI.out.pb.b10.lt
        have l11 := HI.out.pb.b11.lt
        have hpo := HI.out.pb.o
        have hlo := HPO.out.lo
        have n1 : r8 ≠ b16 := by omega
        have n2 : r9 ≠ b16 := by omega
        have n3 : r10 ≠ b16 := by omega
        have n4 : r11 ≠ b16 := by omega
        have n5 : r9 ≠ r8 := by omega
        have n6 : r10 ≠ r8 := by omega
        have n7 : r11 ≠ r8 := by omega
        have n8 : r10 ≠ r9 := by omega
        have n9 : r11 ≠ r9 := by omega
        have n10 : r11 ≠ r10 := by omega
        have HF := hid (HSTP.out (Sm + RL.length) HSS.out.symm (by rw [maxF_eq]; exact hov))
        clear hpo hlo
        gi_wp2_with fail
        exact ⟨(((((KeepsOthers.setCell _ _ _).from _).trans ((KeepsOthers.setCell _ _ _).from _)).trans ((KeepsOthers.setCell _ _ _).from _)).trans ((KeepsOthers.setCell _ _ _).from _)).trans ((KeepsOthers.setCell _ _ _).from _), rfl, HF.out⟩
      · obtain ⟨W4, hW4⟩ : ∃ W4, W4 = W.setCell ⟨b16, 0, none⟩ (.int .i64 (Sm + (RL.length : Int))) := ⟨_, rfl⟩
        have hKC : KeptC b16 (· = b16) W W4 := by rw [hW4]; exact KeptC.setAt W b16 0 _
        have hKF : KeepsFrom w3.heap.size W W4 := by rw [hW4]; exact (KeepsOthers.setCell _ _ _).from _
        have hb16 : Boxed W4 b16 3 (.int .i64 (Sm + (RL.length : Int))) := by rw [hW4]; exact HI.out.f.set _
        have hlz := HLZ.out
        have HKC := hid hKC
        have HKF := hid hKF
        have HB16 := hid hb16
        have HR14 := hid (hKC.row HR1.out (fun k e => by have := own_ge HR1.out k e; omega))
        have HI14 : Hid (IntsR W4 (.slice la RL.length lc) RL) := owns_ints HR14.out (by have := HL12.out; omega)
        have HZ4 : Hid (W4.ownsRow w.heap.size 3 1 (.slice (some ⟨zb, 0, none⟩) N N) N ((vecOf N (cntAll (RL.take 0) (rndTo g q N (s0Of ds) kp).T)).map (Value.int .i64))) := hKC.row HSR.out (fun k e h => by have := HPO.out.ne; have e2 : zb = k := Option.some.inj e; omega)
        have HOF : Hid (offP (fun k => k = zb) (.slice la RL.length lc)) := offP_own HR14.out (fun k h => by omega)
        have HS4 : Hid (Boxed W4 b14 27 (.slice (some ⟨zb, 0, none⟩) N N)) := boxed_keptC HI.out.s hKC (fun e => boxed_ne HI.out.s HI.out.f (by decide) e)
        have HW4 := hid hW4
        clear hKC hKF hb16 hlz hW4
        gi_wp2_with fail
        rw [← HW4.out]
        clear HW4
        gi_loopw [46] (fun i wr => ∃ j : Nat, j ≤ RL.length ∧ i = .int .i64 j ∧ Hid (KeptC w.heap.size (fun k => k = zb) W4 wr) ∧ Hid (wr.ownsRow w.heap.size 3 1 (.slice (some ⟨zb, 0, none⟩) N N) N ((vecOf N (cntAll (RL.take j) (rndTo g q N (s0Of ds) kp).T)).map (Value.int .i64))) ∧ Hid (KeepsFrom w3.heap.size W4 wr)) (fun i _ => RL.length - (intOf i).toNat)
        case atStart => exact ⟨0, Nat.zero_le _, rfl, KeptC.refl _ _ _, HZ4, KeepsFrom.refl _ _⟩
        case round =>
          clear HZ4 c15 c7 c16 f16 l16
          obtain ⟨j, hj, rfl, HK, HZ, HF⟩ := hrel
          obtain ⟨W5, rfl⟩ : ∃ W5 : World, W5 = wr := ⟨_, rfl⟩
          have hs5 := boxed_keptC HS4.out HK.out (fun e => by
            have h5 := owns_base HZ.out (Nat.zero_le _)
            have := HI.out.s; have h6 := HSR.out
            rw [e] at this
            exact nr_ne this (by decide) h6 rfl)
          have c14 := hs5.cell
          by_cases hlt : j < RL.length
          · obtain ⟨a1, c1, e1, _, _, _, hcs⟩ := HI14.out.keptC HK.out HOF.out
            injection e1 with e1 _ _
            subst e1
            obtain ⟨ba, off, rfl, hba, hx⟩ := hcs.int (by omega)
            have x1 := hx j hlt
            obtain ⟨v, hve, hvN⟩ := HLR.out (RL[j]?.getD 0) (by rw [List.getElem?_eq_getElem hlt]; exact List.getElem_mem hlt)
            have HST : Hid (cntAll (RL.take (j + 1)) (rndTo g q N (s0Of ds) kp).T = addT (cntAll (RL.take j) (rndTo g q N (s0Of ds) kp).T) v 1) := by
              show _ = _; rw [cntAll_step RL _ j hlt, hve, Int.toNat_natCast]
            rw [hve] at x1
            have hM0 := cnt_nn (RL.take j) (rndTo g q N (s0Of ds) kp).T (rndTo_nn g q N ds kp) v
            have hM1 := cntAll_le (RL.take j) (rndTo g q N (s0Of ds) kp).T v
            have hM2 : (RL.take j).length ≤ 12 := by have := HL12.out; rw [List.length_take]; omega
            have hM3 := HT.out v hvN
            generalize hMM : cntAll (RL.take j) (rndTo g q N (s0Of ds) kp).T = M at *
            clear hMM
            have cz := owns_int HZ.out v hvN
            rw [vecOf_get _ _ _ hvN] at cz
            have fz := HZ.out.frozenAt v
            have lz := (owns_lt HZ.out).2
            have lz0 := (owns_lt HZ.out).1
            have hv1 : (v : Int) < (N : Int) := by omega
            have hv0 : (0 : Int) ≤ (v : Int) := by omega
            have hjl : (j : Int) < (RL.length : Int) := by omega
            have hj0 : (0 : Int) ≤ (j : Int) := by omega
            have wv : IntKind.i64.wrap (M v + 1) = M v + 1 := IntWalk.i64_in _ (by omega)
            have wj : IntKind.i64.wrap ((j : Int) + 1) = (j : Int) + 1 := IntWalk.i64_in _ (by have := HL12.out; omega)
            have hst := owns_set (f := Value.int .i64) HZ.out v (M v + 1)
            rw [vecOf_set, addT_set] at hst
            have HZ2 := hid hst
            have HK2 : Hid (KeptC w.heap.size (fun k => k = zb) W4 (W5.setCell ⟨zb, v, none⟩ (.int .i64 (M v + 1)))) := HK.out.trans ((KeptC.setAt W5 zb v _).weaken lz0 (fun k h => h))
            have HF2 : Hid (KeepsFrom w3.heap.size W4 (W5.setCell ⟨zb, v, none⟩ (.int .i64 (M v + 1)))) := HF.out.trans ((KeepsOthers.setCell _ _ _).from _)
            clear hov wS hne1
            clear hx hve hM0 hM1 hM2 hM3 hst HK HF HZ hs5 lz0 HT HOF
            gi_wp2_with fail
            refine ⟨⟨j + 1, by omega, by simp, HK2, ?_, HF2⟩, by simp [intOf]; omega⟩
            rw [HST.out]; exact HZ2
          · obtain rfl : j = RL.length := by omega
            have hkW5 : KeptC w.heap.size (fun k => k = b16 ∨ k = zb) W W5 := (HKC.out.weaken (by have := HI.out.pb.o; have := HPO.out.lo; omega) (fun k e => .inl e)).trans (HK.out.weaken (Nat.le_refl _) (fun k e => .inr e))
            obtain ⟨oa, oc, q1, q2, _⟩ := HOU.out
            have hpn := HPO.out.ne
            have n13_15 : b13 ≠ b15 := boxed_ne q1 HNN.out (by decide)
            have n13_16 : b13 ≠ b16 := boxed_ne q1 HI.out.f (by decide)
            have nz13 : zb ≠ b13 := nr_ne q1 (by decide) HSR.out
            have h13 : Boxed W5 b13 26 (.slice oa N oc) := boxed_keptC q1 hkW5 (by omega)
            have h15 : Boxed W5 b15 3 (.int .i64 kp) := boxed_keptC HNN.out hkW5 (by omega)
            have h15' := h15.other n13_15.symm (.slice xa N xc)
            have f13 := h13.frozen
            have l13 := h13.lt
            have c13 := h13.cell
            have c15 := h15.cell
            have f15 := h15.frozen
            have l15 := h15.lt
            have c15' := h15'.cell
            have f15' := h15'.frozen
            have l15' := h15'.lt
            have hn1513 : b15 ≠ b13 := n13_15.symm
            have wk : IntKind.i64.wrap ((kp : Int) + 1) = (kp : Int) + 1 := IntWalk.i64_in _ (by have := HGL.out; have := HLS.out; omega)
            have hjj : ¬ ((RL.length : Int) < (RL.length : Int)) := by omega
            have HOV := hid hov
            have HFIN := hid (HNEX.out W4 W5 (Sm + RL.length) HKC.out HB16.out)
            have HKF5 := hid (HKF.out.trans HF.out)
            clear h13 h15 h15' q1 q2 hkW5 hpn n13_16 nz13 hov wS hne1 n13_15 hs5
            gi_wp2_with fail
            have hz := HZ.out
            rw [List.take_length, ← HTT.out] at hz
            obtain ⟨hk7, hpi⟩ := HFIN.out HSS.out.symm (by have := HOV.out; rw [maxF_eq]; omega) HK.out hz
            exact ⟨HKF5.out.trans (((KeepsOthers.setCell _ _ _).from _).trans ((KeepsOthers.setCell _ _ _).from _)), hk7, hpi⟩
    case done =>
      clear HSEQ HI0
      rintro D xs W hD hS hI hK
      have HI := hid hI
      have HSX := hid hS
      have HK := hid hK
      obtain ⟨oa, oc, q1, q2, q3⟩ := hI.out
      have HQ1 := hid q1
      have HQ2 := hid q2
      have HQL : Hid (∀ w', Below W.heap.size W w' → Calls Tryz.prog 65 #[.slice oa N oc] w' fun e w'' => e = .returned (.int .i64 (if bddB N (rndTo g q N (s0Of ds) xs.length).L then 0 else 11)) ∧ w' = w'') := fun w' hB => by
        rw [← large_vec _ hN0 hN12]
        exact q_large _ _ w' (owns_intsN (owns_below q2 hB) (vecOf_len _ _) (by omega))
      clear hI hS hK q1 q2 q3
      show K2 _ _
      refine hK2 _ _ ?_
      clear hK2
      have c13 := HQ1.out.cell
      have HN0 := hid hN0
      have HN12 := hid hN12
      clear hN1 hN2 hdl hn1 hn2 hs1 hs3 hb hr11 HW2 hN0 hN12
      go_wp2_with fail
      refine (HQL.out _ (Below.refl _ _)).mono ?_
      rintro e w'' ⟨rfl, rfl⟩
      clear HQL
      generalize hbb : bddB N (rndTo g q N (s0Of ds) xs.length).L = bb
      have HBB := hid hbb
      clear hbb
      cases bb with
      | false =>
        have c8 := HI.out.pb.b8.cell
        have c9 := HI.out.pb.b9.cell
        have c10 := HI.out.pb.b10.cell
        have c11 := HI.out.pb.b11.cell
        have f8 := HI.out.pb.b8.frozen
        have f9 := HI.out.pb.b9.frozen
        have f10 := HI.out.pb.b10.frozen
        have f11 := HI.out.pb.b11.frozen
        have l8 := HI.out.pb.b8.lt
        have l9 := HI.out.pb.b9.lt
        have l10 := HI.out.pb.b10.lt
        have l11 := HI.out.pb.b11.lt
        have hpo := HI.out.pb.o
        have n5 : r9 ≠ r8 := by omega
        have n6 : r10 ≠ r8 := by omega
        have n7 : r11 ≠ r8 := by omega
        have n8 : r10 ≠ r9 := by omega
        have n9 : r11 ≠ r9 := by omega
        have n10 : r11 ≠ r10 := by omega
        clear hpo
        have HX : Hid (PB (((((W.setCell ⟨r8, 0, none⟩ (.slice none 0 0)).setCell ⟨r9, 0, none⟩ (.slice none 0 0)).setCell ⟨r10, 0, none⟩ (.int .i64 0)).setCell ⟨r11, 0, none⟩ (.int .i64 11))) w.heap.size bg bk r8 r9 r10 r11 #[.int .i64 g.n, .slice a g.es.length cap] (.slice none 0 0) (.slice none 0 0) (.int .i64 0) (.int .i64 11)) := HI.out.pb.sets _ _ _ _
        have HB4 : Hid (Below w.heap.size w (((((W.setCell ⟨r8, 0, none⟩ (.slice none 0 0)).setCell ⟨r9, 0, none⟩ (.slice none 0 0)).setCell ⟨r10, 0, none⟩ (.int .i64 0)).setCell ⟨r11, 0, none⟩ (.int .i64 11)))) := HI.out.bel.trans (HI.out.pb.setsB _ _ _ _)
        have HK4 : Hid ((((((W.setCell ⟨r8, 0, none⟩ (.slice none 0 0)).setCell ⟨r9, 0, none⟩ (.slice none 0 0)).setCell ⟨r10, 0, none⟩ (.int .i64 0)).setCell ⟨r11, 0, none⟩ (.int .i64 11))).heap[D]? = some (.deferred (some []))) := sets_heap HI.out.pb HK.out rfl
        dsimp only
        go_wp2_with fail
        have hkc : KeptC w.heap.size (fun _ => False) _ _ := KeptC.book HWW.out _ D _ (.deferred none) hD HK4.out rfl rfl
        refine ⟨by simp, .inl ⟨_, _, rfl, run_takeDeferred (P := Tryz.prog) HK4.out, ?_⟩⟩
        exact ⟨_, results_pb (HX.out.keptC hkc (fun k h => h.elim)) rfl rfl rfl rfl, HB4.out.trans hkc.low, .inr ⟨xs.length, HI.out.goes, HI.out.le, HSX.out, .inl ⟨HBB.out, rfl⟩⟩⟩
      | true =>
        have c8 := HI.out.pb.b8.cell
        have c9 := HI.out.pb.b9.cell
        have c10 := HI.out.pb.b10.cell
        have c11 := HI.out.pb.b11.cell
        have f8 := HI.out.pb.b8.frozen
        have f9 := HI.out.pb.b9.frozen
        have f10 := HI.out.pb.b10.frozen
        have f11 := HI.out.pb.b11.frozen
        have l8 := HI.out.pb.b8.lt
        have l9 := HI.out.pb.b9.lt
        have l10 := HI.out.pb.b10.lt
        have l11 := HI.out.pb.b11.lt
        have hpo := HI.out.pb.o
        have n5 : r9 ≠ r8 := by omega
        have n6 : r10 ≠ r8 := by omega
        have n7 : r11 ≠ r8 := by omega
        have n8 : r10 ≠ r9 := by omega
        have n9 : r11 ≠ r9 := by omega
        have n10 : r11 ≠ r10 := by omega
        have c14 := HI.out.s.cell
        have c15 := HI.out.n.cell
        have hlo := HPO.out.lo
        have m1 : b13 ≠ r8 := by omega
        have m2 : b14 ≠ r8 := by omega
        have m3 : b15 ≠ r8 := by omega
        have m4 : b13 ≠ r9 := by omega
        have m5 : b14 ≠ r9 := by omega
        have m6 : b15 ≠ r9 := by omega
        clear hpo hlo
        dsimp only
        go_wp2_with fail
        let S : World → Prop := fun w' => w'.cell? ⟨b13, 0, none⟩ = some (.slice oa N oc) ∧ w'.cell? ⟨b14, 0, none⟩ = some (.slice (some ⟨zb, 0, none⟩) N N) ∧ w'.cell? ⟨b15, 0, none⟩ = some (.int .i64 xs.length)
        have hHK := HK.out
        rename_i K3 hK3
        refine wp_mono (Q := Exit.then K3 (fun _ _ _ => False)) ?_ (fun e a w h => by cases e <;> first | exact h | exact h.elim)
        (refine wp_region_text 5 [0,1,2,3,4] S (by kernel_rfl) (by kernel_rfl) (by intro _ _ d _ _ h; cases d <;> exact h) ?hS ?_; rotate_left; simp only [List.map_cons, List.map_nil, List.getD_cons_zero, List.getD_cons_succ, List.drop_succ_cons, List.drop_zero])
        case hS => exact ⟨c13, c14, c15⟩
        (repeat ((refine' wpSeq_take rfl _ (by rfl) ?_ ?_; rotate_left; focus (intro w' hS; (try dsimp only at hS); obtain ⟨s1, s2, s3⟩ := hS; go_simp; (first | done | with_reducible rfl)); (try simp only [Act.put, List.setIfInBounds_toArray, List.set_cons_zero, List.set_cons_succ])); (try simp only [Act.put, List.setIfInBounds_toArray, List.set_cons_zero, List.set_cons_succ])))
        refine wpSeq_call rfl (by rfl) (fun K hK => ?_)
        go_simp
        have k1 := KeptC.setAt W r8 0 (.slice oa N oc)
        have k2 := KeptC.setAt (W.setCell ⟨r8, 0, none⟩ (.slice oa N oc)) r9 0 (.slice (some ⟨zb, 0, none⟩) N N)
        refine hK _ _ ⟨k1.cell c13 m1, k1.cell c14 m2, k1.cell c15 m3⟩ ?_
        clear hK K
        (try simp only [Act.put, List.setIfInBounds_toArray, List.set_cons_zero, List.set_cons_succ])
        refine wpSeq_call rfl (by rfl) (fun K hK => ?_)
        go_simp
        refine hK _ _ ⟨k2.cell (k1.cell c13 m1) m4, k2.cell (k1.cell c14 m2) m5, k2.cell (k1.cell c15 m3) m6⟩ ?_
        clear hK K
        refine wpSeq_nil ?_
        (try simp only [Act.put, List.setIfInBounds_toArray, List.set_cons_zero, List.set_cons_succ])
        have HX : Hid (PB (((((W.setCell ⟨r8, 0, none⟩ (.slice oa N oc)).setCell ⟨r9, 0, none⟩ (.slice (some ⟨zb, 0, none⟩) N N)).setCell ⟨r10, 0, none⟩ (.int .i64 xs.length)).setCell ⟨r11, 0, none⟩ (.int .i64 0))) w.heap.size bg bk r8 r9 r10 r11 #[.int .i64 g.n, .slice a g.es.length cap] (.slice oa N oc) (.slice (some ⟨zb, 0, none⟩) N N) (.int .i64 xs.length) (.int .i64 0)) := HI.out.pb.sets _ _ _ _
        have HKS : Hid (KeptC w.heap.size (fun k => k = r8 ∨ k = r9 ∨ k = r10 ∨ k = r11) W (((((W.setCell ⟨r8, 0, none⟩ (.slice oa N oc)).setCell ⟨r9, 0, none⟩ (.slice (some ⟨zb, 0, none⟩) N N)).setCell ⟨r10, 0, none⟩ (.int .i64 xs.length)).setCell ⟨r11, 0, none⟩ (.int .i64 0)))) := HI.out.pb.setsK _ _ _ _
        have HK4 : Hid ((((((W.setCell ⟨r8, 0, none⟩ (.slice oa N oc)).setCell ⟨r9, 0, none⟩ (.slice (some ⟨zb, 0, none⟩) N N)).setCell ⟨r10, 0, none⟩ (.int .i64 xs.length)).setCell ⟨r11, 0, none⟩ (.int .i64 0))).heap[D]? = some (.deferred (some []))) := sets_heap HI.out.pb HK.out rfl
        clear k1 k2 S hHK
        go_wp2_with fail
        have HX2 := HX.out.below (Below.drew (Below.refl _ _))
        have hK5 := HK4.out
        rw [← heap_drew] at hK5
        have hkc : KeptC w.heap.size (fun _ => False) _ _ := KeptC.book HWW.out _ D _ (.deferred none) hD hK5 rfl rfl
        have hpo := HI.out.pb.o
        have hlo := HPO.out.lo
        have r1 := HKS.out.row HQ2.out (fun k e h => by have := own_ge HQ2.out k e; omega)
        have r2 := HKS.out.row HI.out.srow (fun k e h => by have e2 : zb = k := Option.some.inj e; omega)
        have r3 := owns_below r1 (Below.drew (Below.refl _ _))
        have r4 := owns_below r2 (Below.drew (Below.refl _ _))
        refine ⟨by simp, .inl ⟨_, _, rfl, run_takeDeferred (P := Tryz.prog) hK5, ?_⟩⟩
        refine ⟨_, results_pb (HX2.keptC hkc (fun k h => h.elim)) rfl rfl rfl rfl, (HI.out.bel.trans (HKS.out.low.drew)).trans hkc.low, .inr ⟨xs.length, HI.out.goes, HI.out.le, HSX.out, .inr ⟨HBB.out, _, _, rfl, ?_, ?_⟩⟩⟩
        · exact owns_base (hkc.row r3 (fun k e h => h.elim)) (by omega)
        · exact hkc.row r4 (fun k e h => h.elim)
    case stop =>
      rintro D c pre W hD ⟨rfl, hpx⟩ hK
      gi_wp2
      have hkc : KeptC w.heap.size (fun _ => False) W (W.putObj D (.deferred none)) := KeptC.book HWW.out W D _ _ hD hK rfl rfl
      refine ⟨by simp, .inl ⟨_, _, rfl, run_takeDeferred (P := Tryz.prog) hK, ?_⟩⟩
      exact ⟨_, results_pb (hpx.pb.keptC hkc (fun k h => h.elim)) rfl rfl rfl rfl, hpx.bel.trans hkc.low, .inl ⟨pre.length, hpx.goes, hpx.gt, rfl⟩⟩

end Go.Proofs.YtbjoblkigbphhaaGreat
