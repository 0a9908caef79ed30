/-
  Contracts of the reference for schedules: bounded, Run, Trace.
-/
import Derived.Test.YtlhbgainpeehoaaR21d
namespace Go.Proofs.Ytlhbgainpeehoaa
open Go.RowKit

set_option maxRecDepth 100000 in
set_option maxHeartbeats 1000000 in
theorem r21_bounded (ds : List Int) (dv : Value) (w : World) (hd : IntsR w dv ds) :
    Calls Try.prog 49 #[dv] w fun e w' => e = .returned (.bool (ds.all inB)) ∧ w = w' := by
  obtain ⟨a, cap, rfl, hcap, hcm, hlen, hc⟩ := hd
  generalize hz : ds.all inB = z
  have HZ : Hid ((ds.drop 0).all inB = z) := hz
  clear hz
  go_enter Try.func49, Try.ntmps49
  go_wp2
  go_loopw [3] (fun i wr => ∃ k : Nat, k ≤ ds.length ∧ i = .int .i64 k ∧ Hid ((ds.drop k).all inB = z) ∧ Hid (w = wr)) (fun i _ => ds.length - (intOf i).toNat)
  case atStart => exact ⟨0, Nat.zero_le _, rfl, HZ, rfl⟩
  case round =>
    obtain ⟨k, hk, rfl, HZ, HE⟩ := hrel
    obtain rfl := HE.out
    by_cases hlt : k < ds.length
    · obtain ⟨b', off', rfl, hb', hcs⟩ := hc.int (by omega)
      have c1 := hcs k hlt
      have hst : Hid ((ds.drop k).all inB = (inB (ds[k]?.getD 0) && (ds.drop (k + 1)).all inB)) := by show _ = _; rw [drop_step ds k hlt, List.all_cons]; rfl
      have hlt' : (k : Int) < (ds.length : Int) := by omega
      have hk0 : (0 : Int) ≤ (k : Int) := by omega
      clear hcs hc
      generalize ds[k]?.getD 0 = x at *
      have hIn := hid (r17_In x w)
      cases hi : inB x with
      | false =>
        rw [hi] at hIn
        have hf : Hid (z = false) := by show _ = _; rw [← HZ.out, hst.out, hi]; rfl
        clear hst
        go_wp2_with (go_at_call 56; refine hIn.out.mono ?_; rintro e w3 ⟨rfl, rfl⟩)
        go_ret
        exact ⟨by rw [hf.out]; rfl, rfl⟩
      | true =>
        rw [hi] at hIn
        have hn : Hid ((ds.drop (k + 1)).all inB = z) := by show _ = _; rw [← HZ.out, hst.out, hi]; rfl
        clear hst
        go_wp2_with (go_at_call 56; refine hIn.out.mono ?_; rintro e w3 ⟨rfl, rfl⟩)
        go_roundw
        case rel => exact ⟨k + 1, by omega, by go_num, hn, True.intro⟩
        case measure => simp [intOf]; omega
    · have hf : Hid (z = true) := by show _ = _; rw [← HZ.out, show k = ds.length by omega, List.drop_length]; rfl
      have hlt' : ¬ (k : Int) < (ds.length : Int) := by omega
      clear hc
      go_wp2
      go_ret
      exact ⟨by rw [hf.out]; rfl, rfl⟩

/-- What a right configuration and events hand to Went. -/
theorem went_at (g : G) (gv : Value) (q : Int) (ds : List Int) (dv : Value) (l : List (Int × Int)) (lv : Value) (w : World) (hg : GrR w gv g) (hd : IntsR w dv ds) (hl : PairsR w lv l) (hr : runErr g q ds l = 0) :
    Calls Try.prog 48 #[gv, .int .i64 q, dv, lv] w (RetCourse 3 w g.n.toNat (evTo g q g.n.toNat l (s0Of ds) l.length).1 (evTo g q g.n.toNat l (s0Of ds) l.length).2) := by
  obtain ⟨hcf, hev⟩ := run_ok hr
  obtain ⟨hk, hq0, hqn, hdl, hdb, _⟩ := cfg_ok hcf
  have hn := hk.n
  have hdN : ds = vecOf g.n.toNat (dOf ds) := by
    have := vecOf_self ds
    rw [show ds.length = g.n.toNat by omega] at this
    exact this.symm
  have h := r21_Went g gv g.n.toNat (by omega) (by omega) q (dOf ds) dv l lv w hg hk (by rw [← hdN]; exact hd) hl hev (fun u hu => by
    have hu' : u < ds.length := by omega
    have := hdb _ (List.getElem_mem hu')
    unfold dOf
    simpa [hu'] using this)
  exact h

set_option maxRecDepth 100000 in
set_option maxHeartbeats 4000000 in
theorem r21_Run (g : G) (gv : Value) (q : Int) (ds : List Int) (dv : Value) (l : List (Int × Int)) (lv : Value) (w : World) (hg : GrR w gv g) (hd : IntsR w dv ds) (hl : PairsR w lv l) :
    Calls Try.prog 15 #[gv, .int .i64 q, dv, lv] w (RetTri 3 w g.n.toNat (runR g q ds l)) := by
  have hg' := hg
  obtain ⟨ev, rfl, _⟩ := hg'
  have hW : Below w.heap.size w (w.alloc (.cells #[.int .i64 g.n, ev] 24)) := by go_grown
  have hgr := hid (hg.below hW)
  have hdr := hid (hd.below hW)
  have hlr := hid (hl.below hW)
  have hck := hid (r19_Check g _ q ds _ _ hgr.out hdr.out)
  by_cases hc : cfgErr g q ds = 0
  case neg =>
    have hz : runR g q ds l = .inl (cfgErr g q ds) := by unfold runR runErr; simp [hc]
    rw [hz]
    have hb : (cfgErr g q ds != 0) = true := by simpa using hc
    clear hc hz
    generalize cfgErr g q ds = z at *
    go_enter Try.func15, Try.ntmps15
    go_wp2_with (go_at_call 34; refine hck.out.mono ?_; rintro e w1 ⟨rfl, hB1⟩)
    go_ret3
    exact ⟨up hW hB1, rfl⟩
  have hev := hid (fun (w1 : World) (h : Below w.heap.size w w1) => r21_events g _ l _ w1 (hg.below h) (hl.below h))
  rw [hc] at hck
  by_cases he : evsErr g l = 0
  case neg =>
    have hz : runR g q ds l = .inl (evsErr g l) := by unfold runR runErr; simp [hc, he]
    rw [hz]
    have hb : (evsErr g l != 0) = true := by simpa using he
    clear hc hz he
    generalize evsErr g l = z at *
    go_enter Try.func15, Try.ntmps15
    go_wp2_with (first
      | (go_at_call 34; refine hck.out.mono ?_; rintro e w1 ⟨rfl, hB1⟩; obtain ⟨r1, r2⟩ := bcell hB1)
      | (go_at_call 47; refine (hev.out _ (up hW hB1)).mono ?_; rintro e w2 ⟨rfl, hB2⟩))
    go_ret3
    exact ⟨up (up hW hB1) hB2, rfl⟩
  have hr : runErr g q ds l = 0 := by unfold runErr; simp [hc, he]
  have hz : runR g q ds l = if bddB g.n.toNat (evTo g q g.n.toNat l (s0Of ds) l.length).1.L then .inr (evTo g q g.n.toNat l (s0Of ds) l.length).1 else .inl 11 := by unfold runR; rw [if_neg (by simpa using hr)]
  rw [hz]
  have hn := (cfg_ok hc).1.n
  have hwent := hid (fun (w1 : World) (h : Below w.heap.size w w1) => went_at g _ q ds _ l _ w1 (hg.below h) (hd.below h) (hl.below h) hr)
  simp only [he] at hev
  clear hr hz he hc
  have hnt : g.n.toNat ≤ 12 := by omega
  generalize g.n.toNat = N at *
  generalize (evTo g q N l (s0Of ds) l.length).2 = tr at *
  generalize (evTo g q N l (s0Of ds) l.length).1 = s at *
  have hbd := hid (fun (w2 : World) (base b1 c1 : Nat) (h : w2.ownsRow base 3 1 (.slice (some ⟨b1, 0, none⟩) N c1) N ((vecOf N s.L).map (Value.int .i64))) => show Calls Try.prog 49 #[.slice (some ⟨b1, 0, none⟩) N c1] w2 fun e w' => e = .returned (.bool (bddB N s.L)) ∧ w2 = w' from
    r21_bounded (vecOf N s.L) _ w2 (owns_intsN h (vecOf_len _ _) (by omega)))
  cases hbb : bddB N s.L
  case false =>
    rw [hbb] at hbd
    go_enter Try.func15, Try.ntmps15
    go_wp2_with (first
      | (go_at_call 34; refine hck.out.mono ?_; rintro e w1 ⟨rfl, hB1⟩; obtain ⟨r1, r2⟩ := bcell hB1; have hk1 := hid (up hW hB1))
      | (go_at_call 47; refine (hev.out _ hk1.out).mono ?_; rintro e w2 ⟨rfl, hB2⟩; obtain ⟨r3, r4⟩ := bcell hB2; have hk2 := hid (up hk1.out hB2); have hs1 := hB1.size; (simp only [World.size_alloc] at hs1); have u1 : w.heap.size < w1.heap.size := (by omega))
      | (go_at_call 48; refine (hwent.out _ hk2.out).mono ?_; rintro e w3 ⟨hB3, b1, c1, b2, c2, v3, rfl, ho1, ho2, ho3⟩; obtain ⟨a3, c3, rfl⟩ := owns_slice ho3)
      | (go_at_call 49; refine (hbd.out _ _ b1 c1 (ho1.alloc _)).mono ?_; rintro e w4 ⟨rfl, rfl⟩))
    go_ret3
    exact ⟨(up hk2.out hB3).alloc (up hk2.out hB3).size _, rfl⟩
  case true =>
    rw [hbb] at hbd
    go_enter Try.func15, Try.ntmps15
    go_wp2_with (first
      | (go_at_call 34; refine hck.out.mono ?_; rintro e w1 ⟨rfl, hB1⟩; obtain ⟨r1, r2⟩ := bcell hB1; have hk1 := hid (up hW hB1))
      | (go_at_call 47; refine (hev.out _ hk1.out).mono ?_; rintro e w2 ⟨rfl, hB2⟩; obtain ⟨r3, r4⟩ := bcell hB2; have hk2 := hid (up hk1.out hB2); have hs1 := hB1.size; (simp only [World.size_alloc] at hs1); have u1 : w.heap.size < w1.heap.size := (by omega))
      | (go_at_call 48; refine (hwent.out _ hk2.out).mono ?_; rintro e w3 ⟨hB3, b1, c1, b2, c2, v3, rfl, ho1, ho2, ho3⟩; obtain ⟨a3, c3, rfl⟩ := owns_slice ho3)
      | (go_at_call 49; refine (hbd.out _ _ b1 c1 (ho1.alloc _)).mono ?_; rintro e w4 ⟨rfl, rfl⟩))
    go_quiet (fail)
    go_wp2
    go_ret3
    have hbs := hk2.out.size
    exact ⟨below_dN ((up hk2.out hB3).alloc (up hk2.out hB3).size _) _, b1, c1, b2, c2, rfl, owns_dN ((owns_base ho1 hbs).alloc _) _, owns_dN ((owns_base ho2 hbs).alloc _) _⟩

theorem field_course (a0 a1 a2 : Option Addr) (n0 c0 n1 c1 n2 c2 : Nat) (w : World) : (Instr.field 87 (.agg #[.slice a0 n0 c0, .slice a1 n1 c1, .slice a2 n2 c2]) 2).run Try.prog w = .ok (.slice a2 n2 c2) w := by kernel_rfl
set_option maxRecDepth 100000 in
set_option maxHeartbeats 4000000 in
theorem r21_Trace (g : G) (gv : Value) (q : Int) (ds : List Int) (dv : Value) (l : List (Int × Int)) (lv : Value) (w : World) (hg : GrR w gv g) (hd : IntsR w dv ds) (hl : PairsR w lv l) :
    Calls Try.prog 18 #[gv, .int .i64 q, dv, lv] w (RetTrc 3 w (traceR g q ds l)) := by
  have hg' := hg
  obtain ⟨ev, rfl, _⟩ := hg'
  have hW : Below w.heap.size w (w.alloc (.cells #[.int .i64 g.n, ev] 24)) := by go_grown
  have hgr := hid (hg.below hW)
  have hdr := hid (hd.below hW)
  have hlr := hid (hl.below hW)
  have hck := hid (r19_Check g _ q ds _ _ hgr.out hdr.out)
  by_cases hc : cfgErr g q ds = 0
  case neg =>
    have hz : traceR g q ds l = .inl (cfgErr g q ds) := by unfold traceR runErr; simp [hc]
    rw [hz]
    have hb : (cfgErr g q ds != 0) = true := by simpa using hc
    clear hc hz
    generalize cfgErr g q ds = z at *
    go_enter Try.func18, Try.ntmps18
    go_wp2_with (go_at_call 34; refine hck.out.mono ?_; rintro e w1 ⟨rfl, hB1⟩)
    go_ret2
    exact ⟨up hW hB1, rfl⟩
  have hev := hid (fun (w1 : World) (h : Below w.heap.size w w1) => r21_events g _ l _ w1 (hg.below h) (hl.below h))
  rw [hc] at hck
  by_cases he : evsErr g l = 0
  case neg =>
    have hz : traceR g q ds l = .inl (evsErr g l) := by unfold traceR runErr; simp [hc, he]
    rw [hz]
    have hb : (evsErr g l != 0) = true := by simpa using he
    clear hc hz he
    generalize evsErr g l = z at *
    go_enter Try.func18, Try.ntmps18
    go_wp2_with (first
      | (go_at_call 34; refine hck.out.mono ?_; rintro e w1 ⟨rfl, hB1⟩; obtain ⟨r1, r2⟩ := bcell hB1)
      | (go_at_call 47; refine (hev.out _ (up hW hB1)).mono ?_; rintro e w2 ⟨rfl, hB2⟩))
    go_ret2
    exact ⟨up (up hW hB1) hB2, rfl⟩
  have hr : runErr g q ds l = 0 := by unfold runErr; simp [hc, he]
  have hz : traceR g q ds l = .inr (evTo g q g.n.toNat l (s0Of ds) l.length).2 := by unfold traceR; rw [if_neg (by simpa using hr)]
  rw [hz]
  have hwent := hid (fun (w1 : World) (h : Below w.heap.size w w1) => went_at g _ q ds _ l _ w1 (hg.below h) (hd.below h) (hl.below h) hr)
  simp only [he] at hev
  clear hr hz he hc
  generalize g.n.toNat = N at *
  generalize (evTo g q N l (s0Of ds) l.length).2 = tr at *
  generalize (evTo g q N l (s0Of ds) l.length).1 = s at *
  go_enter Try.func18, Try.ntmps18
  go_wp2_with (first
    | (go_at_call 34; refine hck.out.mono ?_; rintro e w1 ⟨rfl, hB1⟩; obtain ⟨r1, r2⟩ := bcell hB1; have hk1 := hid (up hW hB1))
    | (go_at_call 47; refine (hev.out _ hk1.out).mono ?_; rintro e w2 ⟨rfl, hB2⟩; obtain ⟨r3, r4⟩ := bcell hB2; have hk2 := hid (up hk1.out hB2); have hs1 := hB1.size; (simp only [World.size_alloc] at hs1); have u1 : w.heap.size < w1.heap.size := (by omega))
    | (go_at_call 48; refine (hwent.out _ hk2.out).mono ?_; rintro e w3 ⟨hB3, b1, c1, b2, c2, v3, rfl, ho1, ho2, ho3⟩; obtain ⟨a3, c3, rfl⟩ := owns_slice ho3; have hfd := field_course (some ⟨b1, 0, none⟩) (some ⟨b2, 0, none⟩) a3 N c1 N c2 tr.length c3 w3))
  go_ret2
  exact ⟨up hk2.out hB3, _, rfl, owns_base ho3 hk2.out.size⟩

end Go.Proofs.Ytlhbgainpeehoaa
