/-
  Contract of the program's schedule: Settle.
  Contracts of the program's schedule: run, started, Run, Trace.
-/
import Derived.Test.YtbjoblkigbphhaaGreatP10
namespace Go.Proofs.YtbjoblkigbphhaaGreat
open Go.RowKit

def seqCnt (g : G) (q : Int) (N : Nat) (s : St) : Nat := (waitN g q N s.L).length
def seqNxt (g : G) (q : Int) (N : Nat) (s : St) (i : Nat) : St := fireS g ((waitN g q N s.L)[i]?.getD 0).toNat s
theorem chGo_sGo (g : G) (q : Int) (N : Nat) (picks : List Int) : ∀ f i s, chGo (seqCnt g q N) (seqNxt g q N) picks f i s = sGo g q N picks f i s
  | 0, i, s => by unfold chGo sGo seqCnt; simp only [List.length_eq_zero_iff]
  | f + 1, i, s => by
    unfold chGo sGo
    simp only [seqCnt, List.length_eq_zero_iff]
    rw [chGo_sGo g q N picks f]
    rfl

theorem sGo_sink {g : G} (hg : Gok g) (q : Nat) (N : Nat) (picks : List Int) (hp : ∀ k ∈ picks, 0 ≤ k) : ∀ f i s r, sGo g q N picks f i s = some r → s.L q ≤ r.L q
  | 0, i, s, r, h => by
    unfold sGo at h
    split at h
    · obtain rfl := Option.some.inj h; exact Int.le_refl _
    · cases h
  | f + 1, i, s, r, h => by
    unfold sGo at h
    split at h
    · obtain rfl := Option.some.inj h; exact Int.le_refl _
    · rename_i hw
      have ih := sGo_sink hg q N picks hp f _ _ r h
      have hc := chosen_bd g q N s.L (pickAt picks i) (pickAt_nn picks hp i) hw
      have h1 : s.L q ≤ (stp g q N picks i s).L q := by
        show s.L q ≤ fireL g _ s.L q
        unfold fireL
        have := rowsF_bd hg (chosen (waitN g q N s.L) (pickAt picks i)).toNat q
        rw [if_neg (by omega)]
        omega
      omega

section
variable (f : Fr)
def seqInv (T0 : TypeId) (k : Nat) (s : St) (w : World) : Prop := (∃ rv, StI T0 f w [rv] s.L s.T) ∧ okS f.N 1048576 k s
def seqInvR (T0 : TypeId) (k : Nat) (s : St) (w : World) : Prop := (∃ rv, StI T0 f w [rv] s.L s.T ∧ w.ownsRow f.W0.heap.size T0 1 rv (waitN f.g f.q f.N s.L).length ((waitN f.g f.q f.N s.L).map (Value.int .i64))) ∧ okS f.N 1048576 k s
end

theorem seq_count (f : Fr) (k : Nat) (s : St) (w : World) (h : seqInv f 3 k s w) :
    Calls Tryz.prog 124 #[.pointer (some ⟨f.b, 0, none⟩)] w fun e w' => e = .returned (.int .i64 (seqCnt f.g f.q f.N s)) ∧ seqInvR f 3 k s w' := by
  obtain ⟨⟨rv, hS⟩, hok⟩ := h
  refine (p_count f w rv s.L s.T hS).mono ?_
  rintro e w' ⟨rfl, _, v, h1, h2⟩
  exact ⟨rfl, ⟨v, h1, h2⟩, hok⟩
theorem seq_take (f : Fr) (k : Nat) (s : St) (w : World) (i : Nat) (hk : k < maxF) (h : seqInvR f 3 k s w) (hi : i < seqCnt f.g f.q f.N s) :
    Calls Tryz.prog 125 #[.pointer (some ⟨f.b, 0, none⟩), .int .i64 i] w fun e w' => e = .returned (.tuple #[]) ∧ seqInv f 3 (k + 1) (seqNxt f.g f.q f.N s i) w' := by
  obtain ⟨⟨rv, hS, ho⟩, hok⟩ := h
  unfold seqCnt at hi
  have hmk := maxF_eq
  obtain ⟨br, cr, rfl, _, hbr⟩ := owns_some ho (by omega)
  have hx := owns_int ho i hi
  have hmem : (waitN f.g f.q f.N s.L)[i]?.getD 0 ∈ waitN f.g f.q f.N s.L := by rw [List.getElem?_eq_getElem hi]; exact List.getElem_mem hi
  obtain ⟨h1, h2, _⟩ := waitTo_mem _ _ _ hmem
  have hn : seqNxt f.g f.q f.N s i = fireS f.g ((waitN f.g f.q f.N s.L)[i]?.getD 0).toNat s := rfl
  obtain ⟨x, hxe⟩ := Int.eq_ofNat_of_zero_le h1
  rw [hn]
  rw [hxe] at hx h2 ⊢
  rw [Int.toNat_natCast]
  refine (p_take f w br _ cr x i s.L s.T hS hbr hi hx (by omega) (fun u hu => ?_) ?_).mono ?_
  · have := hok.1 u hu; omega
  · have := hok.2 x (by omega); omega
  · rintro e w' ⟨rfl, h3, _⟩
    exact ⟨rfl, ⟨_, h3⟩, okS_fire hS.gok hok x⟩

theorem seq_choose (f : Fr) (picks : List Int) (pv : Value) (hp : IntsR f.W0 pv picks) (hpl : 0 < picks.length) (hpp : ∀ k ∈ picks, 0 ≤ k) (s0 : St) (w : World) (hI : seqInv f 3 0 s0 w) :
    Calls Tryz.prog 42 #[.iface 77 (.pointer (some ⟨f.b, 0, none⟩)), pv] w (RetCh (fun s w' => ∃ k, seqInvR f 3 k s w') (sGo f.g f.q f.N picks maxF 0 s0)) := by
  rw [← chGo_sGo]
  refine p_choose (seqCnt f.g f.q f.N) (seqNxt f.g f.q f.N) (seqInv f 3) (seqInvR f 3) f.b picks pv f.W0 hp hpl hpp ?_ ?_ ?_ ?_ ?_ s0 w hI
  · rintro k s w ⟨⟨rv, hS, _⟩, _⟩; exact hS.below
  · rintro k s w _ ⟨⟨rv, hS⟩, _⟩
    have h1 := waitN_len f.g f.q f.N s.L
    have := hS.N12
    unfold seqCnt; omega
  · rintro k s w ⟨⟨rv, hS, ho⟩, hok⟩; exact ⟨⟨rv, hS.drew, ho.drew⟩, hok⟩
  · intro k s w _ h; exact seq_count f k s w h
  · intro k s w i hk h hi; exact seq_take f k s w i hk h hi

theorem st_start {T0 t : TypeId} {W0 w w1 : World} {g : G} {ev : Value} {q N bl cl bt bv : Nat} {ds : List Int} {tail : List Value} (hk : Gok g) (hN : g.n = N) (hq : q < N) (hB : Below W0.heap.size W0 w) (hE : EdgesR W0 ev g.es)
    (hB1 : Below w.heap.size w w1)
    (ol : w1.ownsRow w.heap.size T0 1 (.slice (some ⟨bl, 0, none⟩) N cl) N ((vecOf N (dOf ds)).map (Value.int .i64)))
    (ot : w1.ownsRow w.heap.size T0 1 (.slice (some ⟨bt, 0, none⟩) N N) N ((vecOf N fun _ => 0).map (Value.int .i64)))
    (ov : w1.ownsRow w.heap.size T0 1 (.slice (some ⟨bv, 0, none⟩) N N) N ((vecOf N fun v => valence g v).map (Value.int .i64))) (n1 : bl ≠ bt) (n2 : bl ≠ bv) (n3 : bt ≠ bv) :
    StI T0 ⟨W0, w1.heap.size, bl, cl, bt, N, bv, N, N, ev, g, q, t⟩ (w1.alloc (.cells (Value.int .i64 g.n :: ev :: .int .i64 q :: .slice (some ⟨bl, 0, none⟩) N cl :: .slice (some ⟨bt, 0, none⟩) N N :: .slice (some ⟨bv, 0, none⟩) N N :: tail).toArray t)) tail (dOf ds) (fun _ => 0) := by
  have h0 := hB.size
  have h1 := hB1.size
  have l1 := owns_lt ol
  have l2 := owns_lt ot
  have l3 := owns_lt ov
  refine ⟨Blk.new _ _ _, by dsimp only; omega, (owns_base ol h0).alloc _, (owns_base ot h0).alloc _, (owns_base ov h0).alloc _, ?_, ?_, ?_, n1, n2, n3, (up hB hB1).alloc (by omega) _, hE, hk, hN, hq⟩
  all_goals (dsimp only; omega)

/-- What settling is, as the program tells it. -/
theorem settleR_eq {g : G} {q : Nat} {ds picks : List Int} (h : givErr g q ds picks = 0) :
    settleR g q ds picks = match sGo g q g.n.toNat picks maxF 0 ⟨dOf ds, fun _ => 0⟩ with
      | none => .inl 12
      | some s => if 1048576 < s.L q then .inl 11 else .inr s := by
  unfold settleR
  rw [if_neg (by simpa using h)]
  have hc := cfg_ok (giv_ok h).1
  have hp := pk_ok (giv_ok h).2
  show (match sGo g q g.n.toNat picks maxF 0 ⟨dOf ds, fun _ => 0⟩ with | none => _ | some s => _) = _
  cases hs : sGo g q g.n.toNat picks maxF 0 ⟨dOf ds, fun _ => 0⟩ with
  | none => rfl
  | some s =>
    have h1 := sGo_sink hc.1 q g.n.toNat picks hp.2.2 _ _ _ _ hs
    have h2 : -1048576 ≤ dOf ds q := by
      unfold dOf
      have hl : q < ds.length := by have := hc.2.2.1; have := hc.2.2.2.1; omega
      rw [List.getElem?_eq_getElem hl]
      exact (hc.2.2.2.2.1 _ (List.getElem_mem hl)).1
    dsimp only at h1 ⊢
    rw [Int.toNat_natCast]
    by_cases h3 : 1048576 < s.L q
    · rw [if_pos h3, if_neg]
      unfold inB; simp; omega
    · rw [if_neg h3, if_pos]
      unfold inB; simp; omega

set_option maxRecDepth 100000 in
set_option maxHeartbeats 4000000 in
theorem p_Settle (g : G) (gv : Value) (q : Int) (ds : List Int) (dv : Value) (picks : List Int) (pv : Value) (w : World) (hg : GrR w gv g) (hd : IntsR w dv ds) (hp : IntsR w pv picks) :
    Calls Tryz.prog 14 #[gv, .int .i64 q, dv, pv] w (RetTri 3 w g.n.toNat (settleR g q ds picks)) := by
  have hg' := hg
  obtain ⟨ev, rfl, a, cap, rfl, hcap, hcm, hlen, hc⟩ := hg'
  have hW : Below w.heap.size w (w.alloc (.cells #[.int .i64 g.n, .slice a g.es.length cap] 24)) := by go_grown
  have hgr := hid (hg.below hW)
  have hdr := hid (hd.below hW)
  have hpr := hid (hp.below hW)
  by_cases hgv : givErr g q ds picks = 0
  case neg =>
    have hz : settleR g q ds picks = .inl (givErr g q ds picks) := by unfold settleR; rw [if_pos hgv]
    rw [hz]
    have hb : (givErr g q ds picks != 0) = true := by simpa using hgv
    clear hz hgv
    go_enter Tryz.func14, Tryz.ntmps14
    go_wp2_with (go_at_call 39; refine (p_given g _ q ds _ picks _ _ hgr.out hdr.out hpr.out).mono ?_; rintro e w1 ⟨rfl, hB1⟩; obtain ⟨r1, r2⟩ := bcell hB1)
    go_ret3
    exact ⟨up hW hB1, rfl⟩
  have hb : (givErr g q ds picks != 0) = false := by simpa using hgv
  have hcf := cfg_ok (giv_ok hgv).1
  have hpk := pk_ok (giv_ok hgv).2
  obtain ⟨Q, rfl⟩ := Int.eq_ofNat_of_zero_le hcf.2.1
  obtain ⟨N, hN⟩ : ∃ N : Nat, g.n = N := ⟨g.n.toNat, by omega⟩
  have hNt : g.n.toNat = N := by omega
  have hQN : Q < N := by omega
  have hr := settleR_eq hgv
  rw [hNt] at hr ⊢
  generalize settleR g Q ds picks = z at *
  have HR := hid hr
  have hk := hid hcf.1
  have hl : ds.length = N := by have := hcf.2.2.2.1; omega
  have hbeg := hid (fun w1 (h : Below (w.alloc (.cells #[.int .i64 g.n, .slice a g.es.length cap] 24)).heap.size (w.alloc (.cells #[.int .i64 g.n, .slice a g.es.length cap] 24)) w1) =>
    p_begin g (.slice a g.es.length cap) hk.out N hN Q ds dv hl w1 (hgr.out.below h) (hdr.out.below h))
  have hst := hid (fun (t : TypeId) (w1 w2 : World) (hB : Below w.heap.size w w1) (hB1 : Below w1.heap.size w1 w2) (bl cl bt bv : Nat) ol ot ov n1 n2 n3 =>
    st_start (T0 := 3) (t := t) (W0 := w) (w := w1) (w1 := w2) (g := g) (ev := .slice a g.es.length cap) (q := Q) (N := N) (bl := bl) (cl := cl) (bt := bt) (bv := bv) (ds := ds) (tail := [.slice none 0 0]) hk.out hN hQN hB ⟨a, cap, rfl, hcap, hcm, hlen, hc⟩ hB1 ol ot ov n1 n2 n3)
  have hok : okS N 1048576 0 ⟨dOf ds, fun _ => 0⟩ := ⟨fun u hu => by
      have h1 : u < ds.length := by omega
      have := hcf.2.2.2.2.1 _ (List.getElem_mem h1)
      show _ ≤ dOf ds u ∧ dOf ds u ≤ _
      unfold dOf; rw [List.getElem?_eq_getElem h1]; simp only [Option.getD_some]; omega, fun u hu => by dsimp only; omega⟩
  have HOK := hid hok
  have HPK := hid hpk
  clear hr hok hpk hgv hcf hN hNt hc
  go_enter Tryz.func14, Tryz.ntmps14
  go_wp2_with (first
    | (go_at_call 39; refine (p_given g _ Q ds _ picks _ _ hgr.out hdr.out hpr.out).mono ?_; rintro e w1 ⟨rfl, hB1⟩; obtain ⟨r1, r2⟩ := bcell hB1)
    | (go_at_call 40; refine (hbeg.out w1 hB1).mono ?_; rintro e w2 ⟨hB2, bl, cl, bt, bv, rfl, ol, ot, ov, n1, n2, n3⟩; have HSt := hid (hst.out 82 w1 w2 (up hW hB1) hB2 bl cl bt bv ol ot ov n1 n2 n3); clear ol ot ov))
  obtain ⟨WB, hWB⟩ : ∃ W : World, W = (w2.alloc (.cells #[.int .i64 g.n, .slice a g.es.length cap, .int .i64 Q, .slice (some ⟨bl, 0, none⟩) N cl, .slice (some ⟨bt, 0, none⟩) N N, .slice (some ⟨bv, 0, none⟩) N N, .slice none 0 0] 82)) := ⟨_, rfl⟩
  rw [← hWB]
  have HS0 : Hid (StI 3 ⟨w, w2.heap.size, bl, cl, bt, N, bv, N, N, .slice a g.es.length cap, g, Q, 82⟩ WB [.slice none 0 0] (dOf ds) (fun _ => 0)) := by
    show StI _ _ _ _ _ _
    rw [hWB]; exact HSt.out
  clear hWB HSt r1 r2 hst hbeg hgr hdr hpr hB2 hB1
  generalize w2.heap.size = b at *
  have hch0 : Hid (Calls Tryz.prog 42 #[.iface 77 (.pointer (some ⟨b, 0, none⟩)), pv] WB.drew (RetCh (fun s w' => ∃ k, seqInvR ⟨w, b, bl, cl, bt, N, bv, N, N, .slice a g.es.length cap, g, Q, 82⟩ 3 k s w') (sGo g Q N picks maxF 0 ⟨dOf ds, fun _ => 0⟩))) :=
    seq_choose ⟨w, b, bl, cl, bt, N, bv, N, N, .slice a g.es.length cap, g, Q, 82⟩ picks pv hp HPK.out.1 HPK.out.2.2 ⟨dOf ds, fun _ => 0⟩ WB.drew ⟨⟨_, HS0.out.drew⟩, HOK.out⟩
  have hend : Hid (∀ (d : Bool) (w3 : World) (s : St) (k : Nat), seqInvR ⟨w, b, bl, cl, bt, N, bv, N, N, .slice a g.es.length cap, g, Q, 82⟩ 3 k s w3 →
      Calls Tryz.prog 41 #[.pointer (some ⟨b, 0, none⟩), .bool d] w3 fun e w4 => e = .returned (.int .i64 (if d then (if 1048576 < s.L Q then 11 else 0) else 12)) ∧ Below w3.heap.size w3 w4 ∧ Below w.heap.size w w4 ∧
        Hid (w4.ownsRow w.heap.size 3 1 (.slice (some ⟨bl, 0, none⟩) N cl) N ((vecOf N s.L).map (Value.int .i64))) ∧ Hid (w4.ownsRow w.heap.size 3 1 (.slice (some ⟨bt, 0, none⟩) N N) N ((vecOf N s.T).map (Value.int .i64))) ∧
        w4.cell? ⟨b, 3, none⟩ = some (.slice (some ⟨bl, 0, none⟩) N cl) ∧ w4.cell? ⟨b, 4, none⟩ = some (.slice (some ⟨bt, 0, none⟩) N N)) := fun d w3 s k ⟨⟨rv, hS, _⟩, _⟩ => by
    obtain ⟨c0, c1, c2, c3, c4, c5⟩ := hS.cells
    obtain ⟨l1, l2, l3, l4⟩ := hS.lts
    refine (p_ended N Q hQN b bl cl (s.L Q) d w3 l1 l2 c2 c3 (hS.leftAt Q hQN).1).mono ?_
    rintro e w4 ⟨rfl, hB⟩
    have h4 := hS.mono hB
    obtain ⟨_, _, _, k3, k4, _⟩ := h4.cells
    exact ⟨rfl, hB, h4.below, h4.left, h4.times, k3, k4⟩
  clear HS0 HOK HPK hp
  generalize sGo g Q N picks maxF 0 ⟨dOf ds, fun _ => 0⟩ = r at *
  let S : World → Prop := fun _ => True
  cases r with
  | none =>
    (refine wp_region_text 8 [0,1,2,3,4,5,6,7] S (by kernel_rfl) (by kernel_rfl) (by intro _ _ d _ _ h; cases d <;> exact h) ?hS ?_; rotate_left; simp only [List.map_cons, List.map_nil, List.getD_cons_zero, List.getD_cons_succ, List.drop_succ_cons, List.drop_zero])
    case hS => trivial
    (repeat ((refine' wpSeq_take rfl _ (by rfl) ?_ ?_; rotate_left; focus (intro w' hS; (try dsimp only at hS); skip; go_simp; (first | done | with_reducible rfl)); (try simp only [Act.put, List.setIfInBounds_toArray, List.set_cons_zero, List.set_cons_succ])); (try simp only [Act.put, List.setIfInBounds_toArray, List.set_cons_zero, List.set_cons_succ])))
    (refine wpSeq_call rfl (by rfl) (fun K hK => ?_); go_simp; refine (hch0.out).mono ?_; rintro e w3 ⟨rfl, s, k, hI3⟩; refine hK _ _ (trivial) ?_; clear hK K; (try simp only [Act.put, List.setIfInBounds_toArray, List.set_cons_zero, List.set_cons_succ]))
    (refine wpSeq_call rfl (by rfl) (fun K hK => ?_); go_simp; refine (hend.out false w3 s k hI3).mono ?_; rintro e w4 ⟨rfl, hB4, hBw, o1, o2, k3, k4⟩; refine hK _ _ (trivial) ?_; clear hK K; (try simp only [Act.put, List.setIfInBounds_toArray, List.set_cons_zero, List.set_cons_succ]))
    refine wpSeq_nil ?_
    clear S
    go_wp2
    go_ret3
    rw [HR.out]
    exact ⟨hBw, rfl⟩
  | some s =>
    (refine wp_region_text 8 [0,1,2,3,4,5,6,7] S (by kernel_rfl) (by kernel_rfl) (by intro _ _ d _ _ h; cases d <;> exact h) ?hS ?_; rotate_left; simp only [List.map_cons, List.map_nil, List.getD_cons_zero, List.getD_cons_succ, List.drop_succ_cons, List.drop_zero])
    case hS => trivial
    (repeat ((refine' wpSeq_take rfl _ (by rfl) ?_ ?_; rotate_left; focus (intro w' hS; (try dsimp only at hS); skip; go_simp; (first | done | with_reducible rfl)); (try simp only [Act.put, List.setIfInBounds_toArray, List.set_cons_zero, List.set_cons_succ])); (try simp only [Act.put, List.setIfInBounds_toArray, List.set_cons_zero, List.set_cons_succ])))
    (refine wpSeq_call rfl (by rfl) (fun K hK => ?_); go_simp; refine (hch0.out).mono ?_; rintro e w3 ⟨rfl, k, hI3⟩; refine hK _ _ (trivial) ?_; clear hK K; (try simp only [Act.put, List.setIfInBounds_toArray, List.set_cons_zero, List.set_cons_succ]))
    (refine wpSeq_call rfl (by rfl) (fun K hK => ?_); go_simp; refine (hend.out true w3 s k hI3).mono ?_; rintro e w4 ⟨rfl, hB4, hBw, o1, o2, k3, k4⟩; refine hK _ _ (trivial) ?_; clear hK K)
    refine wpSeq_nil ?_
    clear S
    have hr2 := HR.out
    dsimp only at hr2
    clear HR
    by_cases hlg : 1048576 < s.L Q
    · rw [if_pos hlg] at hr2
      subst hr2
      simp only [hlg, if_true]
      go_wp2
      go_ret3
      exact ⟨hBw, rfl⟩
    · rw [if_neg hlg] at hr2
      subst hr2
      simp only [hlg, if_true, if_false]
      go_wp2
      go_quiet (fail)
      go_wp2
      go_ret3
      exact ⟨below_dN hBw _, bl, cl, bt, N, rfl, owns_dN o1.out _, owns_dN o2.out _⟩

end Go.Proofs.YtbjoblkigbphhaaGreat

namespace Go.Proofs.YtbjoblkigbphhaaGreat
open Go.RowKit

end Go.Proofs.YtbjoblkigbphhaaGreat
