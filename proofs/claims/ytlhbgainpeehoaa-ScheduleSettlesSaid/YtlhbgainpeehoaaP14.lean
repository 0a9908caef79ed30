/-
  Contracts of the program's schedule: started, Run, Trace.
-/
import Derived.Test.YtlhbgainpeehoaaP13
namespace Go.Proofs.Ytlhbgainpeehoaa
open Go.RowKit

/-- The state of a configuration is handed back, or none and the number of an error. -/
def RetSt (T0 : TypeId) (w : World) (g : G) (q : Int) (ds : List Int) (l : List (Int × Int)) (N : Nat) (e : Ending) (w' : World) : Prop :=
  Below w.heap.size w w' ∧ (runErr g q ds l ≠ 0 → e = .returned (.tuple #[.pointer none, .int .i64 (runErr g q ds l)])) ∧
    (runErr g q ds l = 0 → ∃ f : Fr, f.W0 = w ∧ f.N = N ∧ f.g = g ∧ (f.q : Int) = q ∧ e = .returned (.tuple #[.pointer (some ⟨f.b, 0, none⟩), .int .i64 0]) ∧ StI T0 f w' [.slice none 0 0] (dOf ds) fun _ => 0)

theorem run_ok {g : G} {q : Int} {ds : List Int} {l : List (Int × Int)} (h : runErr g q ds l = 0) : cfgErr g q ds = 0 ∧ evsErr g l = 0 := by
  unfold runErr at h
  by_cases h1 : cfgErr g q ds = 0
  · rw [if_neg (by simpa using h1)] at h; exact ⟨h1, h⟩
  · rw [if_pos h1] at h; exact absurd h h1
theorem cfg_bd {g : G} {q : Int} {ds : List Int} (h : cfgErr g q ds = 0) (N : Nat) (hN : g.n = N) : okS N 1048576 0 ⟨dOf ds, fun _ => 0⟩ := by
  have hc := cfg_ok h
  refine ⟨fun u hu => ?_, fun u hu => by dsimp only; omega⟩
  have h1 : u < ds.length := by have := hc.2.2.2.1; omega
  have := hc.2.2.2.2.1 _ (List.getElem_mem h1)
  show _ ≤ dOf ds u ∧ dOf ds u ≤ _
  unfold dOf; rw [List.getElem?_eq_getElem h1]; simp only [Option.getD_some]; omega

set_option maxRecDepth 100000 in
set_option maxHeartbeats 4000000 in
theorem p_started (g : G) (gv : Value) (q : Int) (ds : List Int) (dv : Value) (l : List (Int × Int)) (lv : Value) (w : World) (hg : GrR w gv g) (hd : IntsR w dv ds) (hl : PairsR w lv l) :
    Calls Try.prog 43 #[gv, .int .i64 q, dv, lv] w (RetSt 3 w g q ds l g.n.toNat) := by
  have hg' := hg
  obtain ⟨ev, rfl, a, cap, rfl, hcap, hcm, hlen, hc⟩ := hg'
  have hW : Below w.heap.size w (w.alloc (.cells #[.int .i64 g.n, .slice a g.es.length cap] 24)) := by go_grown
  have hgr := hid (hg.below hW)
  have hdr := hid (hd.below hW)
  have hlr := hid (hl.below hW)
  by_cases hcf : cfgErr g q ds = 0
  case neg =>
    have hz : runErr g q ds l = cfgErr g q ds := by unfold runErr; rw [if_pos hcf]
    unfold RetSt
    rw [hz]
    have hb : (cfgErr g q ds != 0) = true := by simpa using hcf
    have HC := hid hcf
    clear hz hcf
    go_enter Try.func43, Try.ntmps43
    go_wp2_with (go_at_call 74; refine (p_stCheck g _ q ds _ _ hgr.out hdr.out).mono ?_; rintro e w1 ⟨rfl, hB1⟩; obtain ⟨r1, r2⟩ := bcell hB1)
    go_ret2
    exact ⟨up hW hB1, fun _ => rfl, fun h => absurd h HC.out⟩
  have hb : (cfgErr g q ds != 0) = false := by simpa using hcf
  have hz : runErr g q ds l = evsErr g l := by unfold runErr; rw [if_neg (by simpa using hcf)]
  unfold RetSt
  rw [hz]
  by_cases hev : evsErr g l = 0
  case neg =>
    have hb2 : (evsErr g l != 0) = true := by simpa using hev
    have HE := hid hev
    clear hz hcf hev
    go_enter Try.func43, Try.ntmps43
    go_wp2_with (first
      | (go_at_call 74; refine (p_stCheck g _ q ds _ _ hgr.out hdr.out).mono ?_; rintro e w1 ⟨rfl, hB1⟩; obtain ⟨r1, r2⟩ := bcell hB1; have hs1 := hB1.size; (simp only [World.size_alloc] at hs1); have u1 : w.heap.size < w1.heap.size := (by omega))
      | (go_at_call 60; refine (p_events g _ l _ _ (hgr.out.below hB1) (hlr.out.below hB1)).mono ?_; rintro e w2 ⟨rfl, hB2⟩; obtain ⟨r3, r4⟩ := bcell hB2))
    go_ret2
    exact ⟨up (up hW hB1) hB2, fun _ => rfl, fun h => absurd h HE.out⟩
  have hb2 : (evsErr g l != 0) = false := by simpa using hev
  have hcfo := cfg_ok hcf
  obtain ⟨Q, rfl⟩ := Int.eq_ofNat_of_zero_le hcfo.2.1
  obtain ⟨N, hN⟩ : ∃ N : Nat, g.n = N := ⟨g.n.toNat, by have := hcfo.2.2.1; omega⟩
  have hNt : g.n.toNat = N := by omega
  have hQN : Q < N := by have := hcfo.2.2.1; omega
  rw [hNt]
  have hk := hid hcfo.1
  have hl2 : ds.length = N := by have := hcfo.2.2.2.1; omega
  have hbeg := hid (fun w1 (h : Below (w.alloc (.cells #[.int .i64 g.n, .slice a g.es.length cap] 24)).heap.size (w.alloc (.cells #[.int .i64 g.n, .slice a g.es.length cap] 24)) w1) =>
    p_begin g (.slice a g.es.length cap) hk.out N hN Q ds dv hl2 w1 (hgr.out.below h) (hdr.out.below h))
  have hst := hid (fun (t : TypeId) (w1 w2 : World) (hB : Below w.heap.size w w1) (hB1 : Below w1.heap.size w1 w2) (bl cl bt bv : Nat) ol ot ov n1 n2 n3 =>
    st_start (T0 := 3) (t := t) (W0 := w) (w := w1) (w1 := w2) (g := g) (ev := .slice a g.es.length cap) (q := Q) (N := N) (bl := bl) (cl := cl) (bt := bt) (bv := bv) (ds := ds) (tail := [.slice none 0 0]) hk.out hN hQN hB ⟨a, cap, rfl, hcap, hcm, hlen, hc⟩ hB1 ol ot ov n1 n2 n3)
  have HEV := hid hev
  clear hz hcf hev hcfo hN hNt hc hl2
  go_enter Try.func43, Try.ntmps43
  go_wp2_with (first
    | (go_at_call 74; refine (p_stCheck g _ Q ds _ _ hgr.out hdr.out).mono ?_; rintro e w1 ⟨rfl, hB1⟩; obtain ⟨r1, r2⟩ := bcell hB1; have hs1 := hB1.size; (simp only [World.size_alloc] at hs1); have u1 : w.heap.size < w1.heap.size := (by omega))
    | (go_at_call 60; refine (p_events g _ l _ _ (hgr.out.below hB1) (hlr.out.below hB1)).mono ?_; rintro e w2 ⟨rfl, hB2⟩; obtain ⟨r3, r4⟩ := bcell hB2; have hBX := hB1.trans (hB2.mono hB1.size))
    | (go_at_call 51; refine (hbeg.out w2 hBX).mono ?_; rintro e w3 ⟨hB3, bl, cl, bt, bv, rfl, ol, ot, ov, n1, n2, n3⟩; have HSt := hid (hst.out 84 w2 w3 (up hW hBX) hB3 bl cl bt bv ol ot ov n1 n2 n3); clear ol ot ov))
  go_ret2
  have hS := HSt.out
  refine ⟨hS.below, fun h => absurd HEV.out h, fun _ => ⟨_, rfl, rfl, rfl, rfl, rfl, hS⟩⟩

/-- A trace is handed back, or none and the number of an error. -/
def RetTrc (T0 : TypeId) (w : World) (r : Int ⊕ List Int) (e : Ending) (w' : World) : Prop :=
  Below w.heap.size w w' ∧ match r with
  | .inl k => e = .returned (.tuple #[.slice none 0 0, .int .i64 k])
  | .inr tr => ∃ v, e = .returned (.tuple #[v, .int .i64 0]) ∧ w'.ownsRow w.heap.size T0 1 v tr.length (tr.map (Value.int .i64))

set_option maxRecDepth 100000 in
set_option maxHeartbeats 4000000 in
theorem p_Trace (g : G) (gv : Value) (q : Int) (ds : List Int) (dv : Value) (l : List (Int × Int)) (lv : Value) (w : World) (hg : GrR w gv g) (hd : IntsR w dv ds) (hl : PairsR w lv l) :
    Calls Try.prog 17 #[gv, .int .i64 q, dv, lv] w (RetTrc 3 w (traceR g q ds l)) := by
  have hg' := hg
  obtain ⟨ev, rfl, a, cap, rfl, hcap, hcm, hlen, hc⟩ := hg'
  have hW : Below w.heap.size w (w.alloc (.cells #[.int .i64 g.n, .slice a g.es.length cap] 24)) := by go_grown
  have hS := hid (p_started g _ q ds dv l lv _ (hg.below hW) (hd.below hW) (hl.below hW))
  have hlr := hid (hl.below hW)
  by_cases hr : runErr g q ds l = 0
  case neg =>
    have hz : traceR g q ds l = .inl (runErr g q ds l) := by unfold traceR; rw [if_pos hr]
    rw [hz]
    have hb : (runErr g q ds l != 0) = true := by simpa using hr
    have HR := hid hr
    clear hz hr
    go_enter Try.func17, Try.ntmps17
    go_wp2_with (go_at_call 43; refine hS.out.mono ?_; rintro e w1 ⟨hB1, hE, _⟩; obtain rfl := hE HR.out; clear hE)
    go_ret2
    exact ⟨up hW hB1, rfl⟩
  have hz : traceR g q ds l = .inr (evTo g q g.n.toNat l (s0Of ds) l.length).2 := by unfold traceR; rw [if_neg (by simpa using hr)]
  rw [hz]
  obtain ⟨hcf, hev⟩ := run_ok hr
  have hN : g.n = (g.n.toNat : Int) := by have := (cfg_ok hcf).1.n; omega
  have hok := cfg_bd hcf g.n.toNat hN
  have hrun := hid (fun (f : Fr) (w1 : World) (h0 : f.W0 = (w.alloc (.cells #[.int .i64 g.n, .slice a g.es.length cap] 24))) (h1 : f.N = g.n.toNat) (h2 : f.g = g) (h3 : (f.q : Int) = q) (h4 : StI 3 f w1 [.slice none 0 0] (dOf ds) fun _ => 0) => by
    have := p_run f l lv (by rw [h0]; exact hlr.out) (by rw [h2]; exact hev) ⟨dOf ds, fun _ => 0⟩ w1 _ h4 (by rw [h1]; exact hok)
    rw [h0, h1, h2, h3] at this
    exact this)
  have hln := hid (evTo_len g q g.n.toNat l (s0Of ds) l.length)
  have HR := hid hr
  clear hz hr hcf hev hN hok hc
  generalize g.n.toNat = N at *
  go_enter Try.func17, Try.ntmps17
  go_wp2_with (first
    | (go_at_call 43; refine hS.out.mono ?_; rintro e w1 ⟨hB1, _, hE⟩; obtain ⟨f, f1, f2, f3, f4, rfl, hSt⟩ := hE HR.out; have hrf := hid (hrun.out f w1 f1 f2 f3 f4 hSt); clear hE hSt)
    | (go_at_call 44; refine hrf.out.mono ?_; rintro e w2 ⟨v, rfl, ho, rv, hS2⟩; have HO := hid ho; have HS2 := hid hS2; clear ho hS2))
  go_ret2
  have hB2 := HS2.out.below
  rw [f1] at hB2
  refine ⟨up hW hB2, v, rfl, ?_⟩
  rw [show (evTo g q N l (s0Of ds) l.length).2.length = l.length from hln.out]
  exact owns_base HO.out hW.size

set_option maxRecDepth 100000 in
set_option maxHeartbeats 4000000 in
theorem p_Run (g : G) (gv : Value) (q : Int) (ds : List Int) (dv : Value) (l : List (Int × Int)) (lv : Value) (w : World) (hg : GrR w gv g) (hd : IntsR w dv ds) (hl : PairsR w lv l) :
    Calls Try.prog 14 #[gv, .int .i64 q, dv, lv] w (RetTri 3 w g.n.toNat (runR g q ds l)) := by
  have hg' := hg
  obtain ⟨ev, rfl, a, cap, rfl, hcap, hcm, hlen, hc⟩ := hg'
  have hW : Below w.heap.size w (w.alloc (.cells #[.int .i64 g.n, .slice a g.es.length cap] 24)) := by go_grown
  have hS := hid (p_started g _ q ds dv l lv _ (hg.below hW) (hd.below hW) (hl.below hW))
  have hlr := hid (hl.below hW)
  by_cases hr : runErr g q ds l = 0
  case neg =>
    have hz : runR g q ds l = .inl (runErr g q ds l) := by unfold runR; rw [if_pos hr]
    rw [hz]
    have hb : (runErr g q ds l != 0) = true := by simpa using hr
    have HR := hid hr
    clear hz hr
    go_enter Try.func14, Try.ntmps14
    go_wp2_with (go_at_call 43; refine hS.out.mono ?_; rintro e w1 ⟨hB1, hE, _⟩; obtain rfl := hE HR.out; clear hE)
    go_ret3
    exact ⟨up hW hB1, rfl⟩
  have hz : runR g q ds l = if bddB g.n.toNat (evTo g q g.n.toNat l (s0Of ds) l.length).1.L then .inr (evTo g q g.n.toNat l (s0Of ds) l.length).1 else .inl 11 := by unfold runR; rw [if_neg (by simpa using hr)]
  rw [hz]
  obtain ⟨hcf, hev⟩ := run_ok hr
  have hN : g.n = (g.n.toNat : Int) := by have := (cfg_ok hcf).1.n; omega
  have hok := cfg_bd hcf g.n.toNat hN
  have hrun := hid (fun (f : Fr) (w1 : World) (h0 : f.W0 = (w.alloc (.cells #[.int .i64 g.n, .slice a g.es.length cap] 24))) (h1 : f.N = g.n.toNat) (h2 : f.g = g) (h3 : (f.q : Int) = q) (h4 : StI 3 f w1 [.slice none 0 0] (dOf ds) fun _ => 0) => by
    have := p_run f l lv (by rw [h0]; exact hlr.out) (by rw [h2]; exact hev) ⟨dOf ds, fun _ => 0⟩ w1 _ h4 (by rw [h1]; exact hok)
    rw [h0, h1, h2, h3] at this
    exact this)
  have HR := hid hr
  clear hz hr hcf hev hN hok hc
  generalize g.n.toNat = N at *
  have hs0 : Hid ((⟨dOf ds, fun _ => 0⟩ : St) = s0Of ds) := rfl
  rw [hs0.out] at hrun
  generalize (evTo g q N l (s0Of ds) l.length).1 = s at *
  have hcf := hid (fun (f : Fr) (w2 : World) rv (h : StI 3 f w2 [rv] s.L s.T) (h1 : f.N = N) => show Calls Try.prog 45 #[.slice (some ⟨f.bl, 0, none⟩) N f.cl, .func (.func 46) #[] #[]] w2 fun e w' => e = .returned (.bool (!(bddB N s.L))) ∧ w2 = w' from by
    subst h1
    exact p_ContainsFunc (vecOf f.N s.L) (.slice (some ⟨f.bl, 0, none⟩) f.N f.cl) w2 (owns_intsN h.left (vecOf_len _ _) (by have := h.N12; omega)))
  have hfin := hid (fun (f : Fr) (w2 : World) rv (h : StI 3 f w2 [rv] s.L s.T) (h1 : f.N = N) (h0 : f.W0 = (w.alloc (.cells #[.int .i64 g.n, .slice a g.es.length cap] 24))) => show Below w.heap.size w w2 ∧
      w2.ownsRow w.heap.size 3 1 (.slice (some ⟨f.bl, 0, none⟩) N f.cl) N ((vecOf N s.L).map (Value.int .i64)) ∧ w2.ownsRow w.heap.size 3 1 (.slice (some ⟨f.bt, 0, none⟩) N f.ct) N ((vecOf N s.T).map (Value.int .i64)) from by
    subst h1
    have h2 := h.below
    have h3 := h.left
    have h4 := h.times
    rw [h0] at h2 h3 h4
    exact ⟨up hW h2, owns_base h3 hW.size, owns_base h4 hW.size⟩)
  cases hbb : bddB N s.L
  case false =>
    go_enter Try.func14, Try.ntmps14
    go_wp2_with (first
      | (go_at_call 43; refine hS.out.mono ?_; rintro e w1 ⟨hB1, _, hE⟩; obtain ⟨f, f1, f2, f3, f4, rfl, hSt⟩ := hE HR.out; have hrf := hid (hrun.out f w1 f1 f2 f3 f4 hSt); clear hE hSt)
      | (go_at_call 44; refine hrf.out.mono ?_; rintro e w2 ⟨v, rfl, ho, rv, hS2⟩; obtain ⟨_, _, _, k3, k4, _⟩ := hS2.cells; have hl2 := hS2.lts.1; have HS2 := hid hS2; clear ho hS2)
      | (go_at_call 45; refine (hcf.out f w2 rv HS2.out f2).mono ?_; rintro e w3 ⟨rfl, rfl⟩; rw [hbb]))
    go_ret3
    exact ⟨(hfin.out f w2 rv HS2.out f2 f1).1, rfl⟩
  case true =>
    go_enter Try.func14, Try.ntmps14
    go_wp2_with (first
      | (go_at_call 43; refine hS.out.mono ?_; rintro e w1 ⟨hB1, _, hE⟩; obtain ⟨f, f1, f2, f3, f4, rfl, hSt⟩ := hE HR.out; have hrf := hid (hrun.out f w1 f1 f2 f3 f4 hSt); clear hE hSt)
      | (go_at_call 44; refine hrf.out.mono ?_; rintro e w2 ⟨v, rfl, ho, rv, hS2⟩; obtain ⟨_, _, _, k3, k4, _⟩ := hS2.cells; have hl2 := hS2.lts.1; have HS2 := hid hS2; clear ho hS2)
      | (go_at_call 45; refine (hcf.out f w2 rv HS2.out f2).mono ?_; rintro e w3 ⟨rfl, rfl⟩; rw [hbb]))
    go_quiet (fail)
    go_wp2
    go_ret3
    obtain ⟨q1, q2, q3⟩ := hfin.out f w2 rv HS2.out f2 f1
    exact ⟨below_dN q1 _, f.bl, f.cl, f.bt, f.ct, rfl, owns_dN q2 _, owns_dN q3 _⟩

end Go.Proofs.Ytlhbgainpeehoaa
