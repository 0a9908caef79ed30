/-
  Contracts of the notation: begin, line.
-/
import Derived.Test.YtemmepgfngkgmaaGreatDoorN5
namespace Go.Proofs.YtemmepgfngkgmaaGreatDoor
open Go.RowKit
set_option linter.unusedVariables false
set_option linter.unusedSimpArgs false

/-- The variables read as they are laid, and block b is none of them. -/
def EnvB (w : World) (b : Nat) : Prop := Env w ∧ b ≠ 7 ∧ b ≠ 0
theorem pow_g : Tryz.prog.globalNamed "internal/strconv.uint64pow10" = some 0 := by kernel_rfl
theorem EnvB.grown {w w' : World} {b : Nat} (h : EnvB w b) (hg : w.grownBy w' (some b)) : EnvB w' b :=
  ⟨h.1.grown hg (fun _ _ => h.2.1) (fun g hg => by rw [pow_g] at hg; exact Option.some.inj hg ▸ h.2.2), h.2⟩
theorem EnvB.below {w w' : World} {b : Nat} (h : EnvB w b) (hB : Below w.heap.size w w') : EnvB w' b := ⟨h.1.below hB, h.2⟩
theorem Env.lt {w : World} (h : Env w) : 7 < w.heap.size ∧ 0 < w.heap.size := by
  obtain ⟨⟨ev, h1, _⟩, h3⟩ := h
  refine ⟨cell_lt h1, ?_⟩
  unfold Lib.TabIs World.var? at h3
  rw [pow_g] at h3
  simp only [Option.bind_some] at h3
  rcases Nat.lt_or_ge 0 w.heap.size with h' | h'
  · exact h'
  · rw [Array.getElem?_eq_none h'] at h3; cases h3
theorem Env.atB {w : World} (h : Env w) {b : Nat} (hb : w.heap.size ≤ b) : EnvB w b := ⟨h, by have := h.lt; omega, by have := h.lt; omega⟩

/-- What stands behind the tokens in a reader. -/
def rdRest (word : List UInt8) (sign : UInt8) (f : Nat) (n : Int) : List Value := [.string (str word), .string (str [sign]), .func (.func f) #[] #[], .int .i64 n]
theorem Tk.setN {w : World} {b tb : Nat} {T : TypeId} {word : List UInt8} {sign : UInt8} {f : Nat} {n : Int} {s : Rs} (h : Tk w b tb T (rdRest word sign f n) s) (k : Int) : Tk (w.setCell ⟨b, 6, none⟩ (.int .i64 k)) b tb T (rdRest word sign f k) s := by
  obtain ⟨h0, off, cap, hb, hne, ht⟩ := h
  refine ⟨h0, off, cap, ?_, hne, ht.grown (grown_set _ _ _ _) (fun x hx => by cases hx; exact hne)⟩
  have := hb.set 6 (.int .i64 k)
  unfold rdRest at this ⊢
  simpa only [List.setIfInBounds_toArray, List.set_cons_zero, List.set_cons_succ] using this
theorem Tk.rest {w : World} {b tb : Nat} {T : TypeId} {word : List UInt8} {sign : UInt8} {f : Nat} {n : Int} {s : Rs} (h : Tk w b tb T (rdRest word sign f n) s) :
    w.cell? ⟨b, 1, none⟩ = some (.int .i64 s.e) ∧ w.cell? ⟨b, 3, none⟩ = some (.string (str word)) ∧ w.cell? ⟨b, 4, none⟩ = some (.string (str [sign])) ∧ w.cell? ⟨b, 5, none⟩ = some (.func (.func f) #[] #[]) ∧ w.cell? ⟨b, 6, none⟩ = some (.int .i64 n) := by
  obtain ⟨h0, off, cap, hb, hne, ht⟩ := h
  unfold rdRest at hb
  have d1 := hb.cell 1
  have d3 := hb.cell 3
  have d4 := hb.cell 4
  have d5 := hb.cell 5
  have d6 := hb.cell 6
  simp only [List.getElem?_toArray, List.getElem?_cons_zero, List.getElem?_cons_succ] at d1 d3 d4 d5 d6
  exact ⟨d1, d3, d4, d5, d6⟩

theorem Tk.frozen {w : World} {b tb : Nat} {T : TypeId} {rest : List Value} {s : Rs} (h : Tk w b tb T rest s) (k : Nat) : w.frozen? ⟨b, k, none⟩ = false := by
  obtain ⟨h0, off, cap, hb, hne, ht⟩ := h
  exact hb.frozen k
theorem Tk.new {w : World} {tb off n cap : Nat} {s : Rs} (hs : TsOk s.ts) (ht : ToksR w (.slice (some ⟨tb, off, none⟩) n cap) s.ts) (T : TypeId) (rest : List Value) :
    Tk (w.alloc (.cells (Value.slice (some ⟨tb, off, none⟩) n cap :: Value.int .i64 s.e :: Value.int .i64 s.pl :: rest).toArray T)) w.heap.size tb T rest s := by
  obtain ⟨b', o', c', e, hlt⟩ := ht.head hs.1
  injection e with e1 e2 e3
  obtain ⟨rfl, rfl⟩ : tb = b' ∧ off = o' := by simpa using e1
  subst e2
  exact ⟨hs, off, cap, Blk.new _ _ _, by omega, ht.below ((Below.refl _ _).alloc (Nat.le_refl _) _)⟩

def RetBegR (T : TypeId) (w : World) (word : List UInt8) (sign : UInt8) (f : Nat) (p : Int × Rs) (e : Ending) (w' : World) : Prop :=
  ∃ rb tb, e = .returned (.pointer (some ⟨rb, 0, none⟩)) ∧ w.heap.size ≤ rb ∧ Tk w' rb tb T (rdRest word sign f p.1) p.2 ∧ Below w.heap.size w w'

set_option maxRecDepth 100000 in
set_option maxHeartbeats 2000000 in
theorem n_begin (text word : List UInt8) (sign : UInt8) (f : Nat) (w : World) (hE : Env w) :
    Calls Tryz.prog 48 #[.string (str text), sortV word sign f] w (RetBegR 104 w word sign f ((opened (scanR text)).head word)) := by
  have hop := hid (fun w => n_open text w)
  have hok := hid (opened_ok text)
  unfold Rs.head
  generalize opened (scanR text) = s at *
  unfold sortV
  go_enter Tryz.func48, Tryz.ntmps48
  go_upto_region 1 with fail
  obtain ⟨W0, hW0⟩ : ∃ W : World, W = w.alloc (.cells #[.string (str word), .string (str [sign]), .func (.func f) #[] #[]] 89) := ⟨_, rfl⟩
  rw [← hW0]
  have hb0 : Blk W0 w.heap.size #[.string (str word), .string (str [sign]), .func (.func f) #[] #[]] 89 := by rw [hW0]; exact Blk.new _ _ _
  have HB0 : Hid (Below w.heap.size w W0) := by rw [hW0]; exact (Below.refl _ _).alloc (Nat.le_refl _) _
  have HW0 := hid hW0
  clear hW0
  let S : World → Prop := fun w' => w'.cell? ⟨w.heap.size, 0, none⟩ = some (.string (str word)) ∧ w'.cell? ⟨w.heap.size, 1, none⟩ = some (.string (str [sign])) ∧ w'.cell? ⟨w.heap.size, 2, none⟩ = some (.func (.func f) #[] #[])
  have hSk : Hid (∀ W, Below W0.heap.size W0 W → S W) := fun W h => ⟨((hb0.below h).cell 0).trans rfl, ((hb0.below h).cell 1).trans rfl, ((hb0.below h).cell 2).trans rfl⟩
  (refine wp_region_text 4 [0,2,1,3] S (by kernel_rfl) (by kernel_rfl) (by intro _ _ d _ _ h; cases d <;> exact h) ?hS ?_; rotate_left; simp only [List.map_cons, List.map_nil, List.getD_cons_zero, List.getD_cons_succ, List.drop_succ_cons, List.drop_zero])
  case hS => exact hSk.out _ (Below.drew (Below.refl _ _))
  (repeat ((refine' wpSeq_take rfl _ (by rfl) ?_ ?_; rotate_left; focus (intro w' hS; (try dsimp only at hS); obtain ⟨s1, s2, s3⟩ := hS; go_simp; (first | done | with_reducible rfl)); (try simp only [Act.put, List.setIfInBounds_toArray, List.set_cons_zero, List.set_cons_succ])); (try simp only [Act.put, List.setIfInBounds_toArray, List.set_cons_zero, List.set_cons_succ])))
  refine wpSeq_call rfl (by rfl) (fun K hK => ?_)
  go_simp
  refine (hop.out _).mono ?_
  rintro e w1 ⟨lv, rfl, ht, hB⟩
  have HB1 := hid ((Below.drew (Below.refl W0.heap.size W0)).trans hB)
  have HT := hid ht
  obtain ⟨tb, toff, tcap, rfl, _⟩ := ht.head hok.out.1
  refine hK _ _ (hSk.out _ HB1.out) ?_
  clear hK K hB ht hop
  (repeat ((refine' wpSeq_take rfl _ (by rfl) ?_ ?_; rotate_left; focus (intro w' hS; (try dsimp only at hS); obtain ⟨s1, s2, s3⟩ := hS; go_simp; (first | done | with_reducible rfl)); (try simp only [Act.put, List.setIfInBounds_toArray, List.set_cons_zero, List.set_cons_succ])); (try simp only [Act.put, List.setIfInBounds_toArray, List.set_cons_zero, List.set_cons_succ])))
  refine wpSeq_nil ?_
  clear S hSk
  go_wp2_with fail
  have hT2 : Tk (w1.alloc (.cells #[.slice (some ⟨tb, toff, none⟩) s.ts.length tcap, .int .i64 s.e, .int .i64 s.pl, .string (str word), .string (str [sign]), .func (.func f) #[] #[], .int .i64 0] 104)) w1.heap.size tb 104 (rdRest word sign f 0) s := Tk.new hok.out HT.out _ _
  have hB2 : Below w.heap.size w (w1.alloc (.cells #[.slice (some ⟨tb, toff, none⟩) s.ts.length tcap, .int .i64 s.e, .int .i64 s.pl, .string (str word), .string (str [sign]), .func (.func f) #[] #[], .int .i64 0] 104)) := ((HB0.out.trans (HB1.out.mono HB0.out.size))).alloc (Nat.le_trans HB0.out.size HB1.out.size) _
  have hrb : w.heap.size ≤ w1.heap.size := Nat.le_trans HB0.out.size HB1.out.size
  have HRB := hid hrb
  generalize w1.heap.size = rb at *
  generalize w1.alloc (.cells #[.slice (some ⟨tb, toff, none⟩) s.ts.length tcap, .int .i64 s.e, .int .i64 s.pl, .string (str word), .string (str [sign]), .func (.func f) #[] #[], .int .i64 0] 104) = W2 at *
  have HB2 := hid hB2
  have HT2 := hid hT2
  clear hB2 hT2 HB1 HT hrb HW0 hb0 HB0
  let S : World → Prop := fun w' => w'.cell? ⟨rb, 3, none⟩ = some (.string (str word))
  (refine wp_region_text 8 [0,1,2,3,4,5,6,7] S (by kernel_rfl) (by kernel_rfl) (by intro _ _ d _ _ h; cases d <;> exact h) ?hS ?_; rotate_left; simp only [List.map_cons, List.map_nil, List.getD_cons_zero, List.getD_cons_succ, List.drop_succ_cons, List.drop_zero])
  case hS => exact HT2.out.rest.2.1
  (repeat ((refine' wpSeq_take rfl _ (by rfl) ?_ ?_; rotate_left; focus (intro w' hS; (try dsimp only at hS); have s1 : w'.cell? ⟨rb, 3, none⟩ = some (.string (str word)) := hS; go_simp; (first | done | with_reducible rfl)); (try simp only [Act.put, List.setIfInBounds_toArray, List.set_cons_zero, List.set_cons_succ])); (try simp only [Act.put, List.setIfInBounds_toArray, List.set_cons_zero, List.set_cons_succ])))
  refine wpSeq_nil ?_
  clear S
  have HT3 := hid (HT2.out.below (Below.drew (Below.refl _ _)))
  have HB3 := hid (HB2.out.drew)
  clear HT2 HB2
  generalize W2.drew = W3 at *
  have hl3 := HT3.out.lt
  go_wp2_with fail
  refine (t_need W3 rb tb _ _ s HT3.out word).mono ?_
  rintro e w4 ⟨rfl, hT4, hg4⟩
  have HT4 := hid hT4
  have HB4 := hid (below_of_grown HB3.out hg4 HB3.out.size HRB.out)
  clear hT4 hg4 HT3 HB3 hl3
  dsimp only
  have hl4 := HT4.out.lt
  go_wp2_with fail
  refine (t_number w4 rb tb _ _ _ (hE.below HB4.out) HT4.out 1 12).mono ?_
  rintro e w5 ⟨rfl, hT5, hg5⟩
  have HT5 := hid hT5
  have HB5 := hid (below_of_grown HB4.out hg5 HB4.out.size HRB.out)
  clear hT5 hg5 HT4 HB4 hl4
  have hl5 := HT5.out.lt
  have f6 : w5.frozen? ⟨rb, 6, none⟩ = false := HT5.out.frozen 6
  have c6 := HT5.out.rest.2.2.2.2
  generalize (s.need word).num 1 12 = p at *
  obtain ⟨n, s5⟩ := p
  dsimp only at c6 HT5 ⊢
  go_wp2_with fail
  have HT6 := hid (HT5.out.setN n)
  have HB6 := hid (HB5.out.setCell (p := ⟨rb, 6, none⟩) HRB.out (.int .i64 n))
  clear HT5 HB5 hl5 f6 c6
  refine (t_need _ rb tb _ _ s5 HT6.out [58]).mono ?_
  rintro e w7 ⟨rfl, hT7, hg7⟩
  have HT7 := hid hT7
  have HB7 := hid (below_of_grown HB6.out hg7 HB6.out.size HRB.out)
  clear hT7 hg7 HT6 HB6
  dsimp only
  go_wp2_with fail
  go_ret
  exact ⟨rb, tb, rfl, HRB.out, HT7.out, HB7.out⟩

/-- While a line is read: the tokens, the line so far, the room for the result. -/
structure LnI (w0 w : World) (rb tb X R : Nat) (T : TypeId) (rest : List Value) (s : Rs) (xc : Array Value) : Prop where
  tk : Tk w rb tb T rest s
  bx : Blk w X xc 149
  br : Blk w R #[.int .i64 0, .int .i64 0, .int .i64 0, .int .i64 0] 149
  g : w0.grownBy w (some rb)
  env : EnvB w rb
  nx : X ≠ rb
  nr : R ≠ rb
  ne : X ≠ R
  nt : tb ≠ X
  ntr : tb ≠ R
  h0 : w0.heap.size ≤ X
  h0r : w0.heap.size ≤ R
section
variable {w0 w w' : World} {rb tb X R : Nat} {T : TypeId} {rest : List Value} {s s' : Rs} {xc : Array Value}
theorem LnI.step (h : LnI w0 w rb tb X R T rest s xc) (ht : Tk w' rb tb T rest s') (hg : w.grownBy w' (some rb)) : LnI w0 w' rb tb X R T rest s' xc :=
  ⟨ht, h.bx.grown hg (fun e => h.nx (Option.some.inj e).symm), h.br.grown hg (fun e => h.nr (Option.some.inj e).symm), grown_trans h.g hg, h.env.grown hg, h.nx, h.nr, h.ne, h.nt, h.ntr, h.h0, h.h0r⟩
theorem LnI.below (h : LnI w0 w rb tb X R T rest s xc) (hB : Below w.heap.size w w') : LnI w0 w' rb tb X R T rest s xc := h.step (h.tk.below hB) (grown_of hB _)
theorem grown_setN (w : World) (g k : Nat) (v : Value) {w0 : World} (hg : w0.heap.size ≤ g) (r : Option Nat) (h : w0.grownBy w r) : w0.grownBy (w.setCell ⟨g, k, none⟩ v) r :=
  ⟨h.os, h.tape, h.output, by simpa [World.setCell] using h.size, fun j hj hne => (Below.heap_setCell _ _ _ _ (by simp; omega)).trans (h.block j hj hne)⟩
theorem Tk.setO (h : Tk w rb tb T rest s) {g : Nat} (h1 : rb ≠ g) (h2 : tb ≠ g) (k : Nat) (v : Value) : Tk (w.setCell ⟨g, k, none⟩ v) rb tb T rest s := by
  obtain ⟨a0, off, cap, hb, hne, ht⟩ := h
  exact ⟨a0, off, cap, hb.other h1 k v, hne, ht.grown (grown_set _ _ _ _) (fun x hx => by cases hx; exact h2)⟩
theorem Env.setO (h : Env w) {g : Nat} (h1 : g ≠ 7) (h2 : g ≠ 0) (k : Nat) (v : Value) : Env (w.setCell ⟨g, k, none⟩ v) :=
  h.grown (grown_set w g k v) (fun _ _ => h1) (fun g' hg => by rw [pow_g] at hg; exact Option.some.inj hg ▸ h2)
theorem LnI.setX (h : LnI w0 w rb tb X R T rest s xc) (he : Env w0) (k : Nat) (v : Value) : LnI w0 (w.setCell ⟨X, k, none⟩ v) rb tb X R T rest s (xc.setIfInBounds k v) :=
  ⟨h.tk.setO (Ne.symm h.nx) h.nt k v, h.bx.set k v, h.br.other (Ne.symm h.ne) k v, grown_setN _ _ _ _ h.h0 _ h.g, ⟨h.env.1.setO (by have := he.lt; have := h.h0; omega) (by have := he.lt; have := h.h0; omega) k v, h.env.2⟩, h.nx, h.nr, h.ne, h.nt, h.ntr, h.h0, h.h0r⟩
theorem LnI.xcell (h : LnI w0 w rb tb X R T rest s xc) (k : Nat) : w.cell? ⟨X, k, none⟩ = xc[k]? := h.bx.cell k
end
theorem load_line {w : World} {b : Nat} {v0 v1 v2 v3 : Value} (h : Blk w b #[v0, v1, v2, v3] 149) :
    (loadVar 149 ⟨b, 0, none⟩).run Tryz.prog w = .ok (.agg #[v0, v1, v2, v3]) w := by
  have c0 := h.cell 0
  have c1 := h.cell 1
  have c2 := h.cell 2
  have c3 := h.cell 3
  simp only [List.getElem?_toArray, List.getElem?_cons_zero, List.getElem?_cons_succ] at c0 c1 c2 c3
  go_simp

theorem LnI.ret {w0 w : World} {rb tb X R : Nat} {T : TypeId} {rest : List Value} {s : Rs} {xc : Array Value} (h : LnI w0 w rb tb X R T rest s xc) (v0 v1 v2 v3 : Value) (W : World) (hW : W = (((w.setCell ⟨R, 0, none⟩ v0).setCell ⟨R, 1, none⟩ v1).setCell ⟨R, 2, none⟩ v2).setCell ⟨R, 3, none⟩ v3) :
    (loadVar 149 ⟨R, 0, none⟩).run Tryz.prog W = .ok (.agg #[v0, v1, v2, v3]) W ∧ Tk W rb tb T rest s ∧ w0.grownBy W (some rb) := by
  have hb := (((h.br.set 0 v0).set 1 v1).set 2 v2).set 3 v3
  have hn := Ne.symm h.nr
  rw [hW]
  exact ⟨load_line hb, (((h.tk.setO hn h.ntr 0 v0).setO hn h.ntr 1 v1).setO hn h.ntr 2 v2).setO hn h.ntr 3 v3, grown_setN _ _ _ _ h.h0r _ (grown_setN _ _ _ _ h.h0r _ (grown_setN _ _ _ _ h.h0r _ (grown_setN _ _ _ _ h.h0r _ h.g)))⟩

def lnV (either : Bool) (x : Ln) : Value := .agg #[.int .i64 (lo either x), .int .i64 (hi either x), .int .i64 x.m, .int .i64 x.pl]
/-- What a sort does with ends. -/
def EndsF (f : Nat) (either : Bool) : Prop := ∀ (a b : Int) (w : World), Calls Tryz.prog f #[.int .i64 a, .int .i64 b] w fun e w' => e = .returned (.agg #[.int .i64 (if either then min a b else a), .int .i64 (if either then max a b else b)]) ∧ Below w.heap.size w w'
theorem ends_sorted : EndsF 96 true := fun a b w => n_sorted a b w
theorem ends_kept : EndsF 111 false := fun a b w => n_kept a b w

set_option maxRecDepth 100000 in
set_option maxHeartbeats 4000000 in
theorem n_line (either : Bool) (sign : UInt8) (word : List UInt8) (f : Nat) (hf : EndsF f either) (hfn : ∀ args w, (callFunc f args).run Tryz.prog w = .ok (.enter f args) w) (n : Int) (hn1 : 1 ≤ n) (hn2 : n ≤ 12) (s : Rs) (rb tb : Nat) (w : World) (hE : EnvB w rb) (hT : Tk w rb tb 104 (rdRest word sign f n) s) :
    Calls Tryz.prog 100 #[.pointer (some ⟨rb, 0, none⟩)] w fun e w' => e = .returned (lnV either (s.line sign n).1) ∧ Tk w' rb tb 104 (rdRest word sign f n) (s.line sign n).2 ∧ w.grownBy w' (some rb) := by
  have hl := hT.lt
  have HB0 := hid (Below.alloc (Below.refl w.heap.size w) (Nat.le_refl _) (.cells #[.int .i64 0, .int .i64 0, .int .i64 0, .int .i64 0] 149))
  have HR := hid (Blk.new w #[.int .i64 0, .int .i64 0, .int .i64 0, .int .i64 0] 149)
  have HT := hid (hT.below HB0.out)
  have HE := hid hE
  have HN := hid (t_now _ rb tb _ _ s HT.out)
  have htb : tb < w.heap.size := by obtain ⟨_, _, h, _⟩ := hT.cells; exact h
  have HTB := hid htb
  clear hE hT htb
  obtain ⟨Z, hZ⟩ : ∃ Z, Z = s.line sign n := ⟨_, rfl⟩
  rw [← hZ]
  have HZ := hid hZ
  clear hZ
  have q2 := tok_pos
  go_enter Tryz.func100, Tryz.ntmps100
  go_wp2_with fail
  refine HN.out.mono ?_
  rintro e w1 ⟨rfl, hB1⟩
  have HB1 := hid (HB0.out.trans (hB1.mono HB0.out.size))
  have HT1 := hid (HT.out.below hB1)
  have HR1 := hid (HR.out.below hB1)
  clear hB1 HT HR HN HB0
  dsimp only
  go_wp2_with fail
  have hsz1 : w.heap.size + 1 ≤ w1.heap.size := by have := HR1.out.lt; omega
  have HI : Hid (LnI w (w1.alloc (.cells #[.int .i64 0, .int .i64 0, .int .i64 1, .int .i64 s.now.pos] 149)) rb tb w1.heap.size w.heap.size 104 (rdRest word sign f n) s #[.int .i64 0, .int .i64 0, .int .i64 1, .int .i64 s.now.pos]) := by
    have hb2 : Below w.heap.size w (w1.alloc (.cells #[.int .i64 0, .int .i64 0, .int .i64 1, .int .i64 s.now.pos] 149)) := HB1.out.alloc HB1.out.size _
    refine ⟨HT1.out.below ((Below.refl _ _).alloc (Nat.le_refl _) _), Blk.new _ _ _, HR1.out.alloc _, grown_of hb2 _, HE.out.below hb2, by omega, by omega, by omega, ?_, ?_, by omega, Nat.le_refl _⟩ <;> have := HTB.out <;> omega
  have HEW := hid HE.out.1
  unfold Rs.line at HZ
  generalize s.now.pos = ps at *
  generalize hX : w1.heap.size = X at *
  generalize hR : w.heap.size = R at *
  generalize w1.alloc (.cells #[.int .i64 0, .int .i64 0, .int .i64 1, .int .i64 ps] 149) = W2 at *
  clear hX hR hsz1 HT1 HR1 HB1 HTB HE
  have wn : IntKind.i64.wrap (n - 1) = n - 1 := IntWalk.i64_in _ (by omega)
  have hn0 : 0 ≤ n - 1 := by omega
  let S : World → Prop := fun w' => w'.cell? ⟨rb, 6, none⟩ = some (.int .i64 n)
  (refine wp_region_text 8 [0,1,2,3,4,5,6,7] S (by kernel_rfl) (by kernel_rfl) (by intro _ _ d _ _ h; cases d <;> exact h) ?hS ?_; rotate_left; simp only [List.map_cons, List.map_nil, List.getD_cons_zero, List.getD_cons_succ, List.drop_succ_cons, List.drop_zero])
  case hS => exact HI.out.tk.rest.2.2.2.2
  (repeat ((refine' wpSeq_take rfl _ (by rfl) ?_ ?_; rotate_left; focus (intro w' hS; (try dsimp only at hS); have s1 : w'.cell? ⟨rb, 6, none⟩ = some (.int .i64 n) := hS; go_simp; (first | done | with_reducible rfl)); (try simp only [Act.put, List.setIfInBounds_toArray, List.set_cons_zero, List.set_cons_succ])); (try simp only [Act.put, List.setIfInBounds_toArray, List.set_cons_zero, List.set_cons_succ])))
  refine wpSeq_nil ?_
  clear S
  have HAd := hid (HI.out.below (Below.drew (Below.refl _ _)))
  have hl := HAd.out.tk.lt
  clear HI
  go_wp2_with fail
  refine (t_number _ rb tb _ _ _ HAd.out.env.1 HAd.out.tk 0 (n - 1)).mono ?_
  rintro e w3 ⟨rfl, ht, hg⟩
  have HA := hid (HAd.out.step ht hg)
  clear ht hg HAd hl
  dsimp only
  go_wp2_with fail
  generalize s.num 0 (n - 1) = p1 at *
  obtain ⟨a, s1⟩ := p1
  dsimp only at HA HZ ⊢
  let S : World → Prop := fun w' => w'.cell? ⟨rb, 4, none⟩ = some (.string (str [sign]))
  (refine wp_region_text 8 [0,1,2,3,4,5,6,7] S (by kernel_rfl) (by kernel_rfl) (by intro _ _ d _ _ h; cases d <;> exact h) ?hS ?_; rotate_left; simp only [List.map_cons, List.map_nil, List.getD_cons_zero, List.getD_cons_succ, List.drop_succ_cons, List.drop_zero])
  case hS => exact HA.out.tk.rest.2.2.1
  (repeat ((refine' wpSeq_take rfl _ (by rfl) ?_ ?_; rotate_left; focus (intro w' hS; (try dsimp only at hS); have s1 : w'.cell? ⟨rb, 4, none⟩ = some (.string (str [sign])) := hS; go_simp; (first | done | with_reducible rfl)); (try simp only [Act.put, List.setIfInBounds_toArray, List.set_cons_zero, List.set_cons_succ])); (try simp only [Act.put, List.setIfInBounds_toArray, List.set_cons_zero, List.set_cons_succ])))
  refine wpSeq_nil ?_
  clear S
  have HBd := hid (HA.out.below (Below.drew (Below.refl _ _)))
  have hl := HBd.out.tk.lt
  clear HA
  go_wp2_with fail
  refine (t_need _ rb tb _ _ _ HBd.out.tk [sign]).mono ?_
  rintro e w4 ⟨rfl, ht, hg⟩
  have HB := hid (HBd.out.step ht hg)
  clear ht hg HBd hl
  dsimp only
  go_wp2_with fail
  generalize s1.need [sign] = s2 at *
  let S : World → Prop := fun w' => w'.cell? ⟨rb, 6, none⟩ = some (.int .i64 n)
  (refine wp_region_text 8 [0,1,2,3,4,5,6,7] S (by kernel_rfl) (by kernel_rfl) (by intro _ _ d _ _ h; cases d <;> exact h) ?hS ?_; rotate_left; simp only [List.map_cons, List.map_nil, List.getD_cons_zero, List.getD_cons_succ, List.drop_succ_cons, List.drop_zero])
  case hS => exact HB.out.tk.rest.2.2.2.2
  (repeat ((refine' wpSeq_take rfl _ (by rfl) ?_ ?_; rotate_left; focus (intro w' hS; (try dsimp only at hS); have s1 : w'.cell? ⟨rb, 6, none⟩ = some (.int .i64 n) := hS; go_simp; (first | done | with_reducible rfl)); (try simp only [Act.put, List.setIfInBounds_toArray, List.set_cons_zero, List.set_cons_succ])); (try simp only [Act.put, List.setIfInBounds_toArray, List.set_cons_zero, List.set_cons_succ])))
  refine wpSeq_nil ?_
  clear S
  have HCd := hid (HB.out.below (Below.drew (Below.refl _ _)))
  have hl := HCd.out.tk.lt
  clear HB
  go_wp2_with fail
  refine (t_number _ rb tb _ _ _ HCd.out.env.1 HCd.out.tk 0 (n - 1)).mono ?_
  rintro e w5 ⟨rfl, ht, hg⟩
  have HC := hid (HCd.out.step ht hg)
  clear ht hg HCd hl
  dsimp only
  generalize s2.num 0 (n - 1) = p2 at *
  obtain ⟨b, s3⟩ := p2
  dsimp only at HC HZ ⊢
  have c5 := HC.out.tk.rest.2.2.2.1
  have hlX := HC.out.bx.lt
  have fX0 := HC.out.bx.frozen 0
  have fX1 := HC.out.bx.frozen 1
  go_wp2_with fail
  refine (hf a b _).mono ?_
  rintro e w6 ⟨rfl, hB6⟩
  have HD := hid (HC.out.below hB6)
  clear hB6 HC c5 hlX fX0 fX1
  have hlX := HD.out.bx.lt
  have fX0 := HD.out.bx.frozen 0
  have fX1 := HD.out.bx.frozen 1
  have hl := HD.out.tk.lt
  have x0 := HD.out.xcell 0
  have x1 := HD.out.xcell 1
  simp only [List.getElem?_toArray, List.getElem?_cons_zero, List.getElem?_cons_succ] at x0 x1
  generalize hA : (if either = true then min a b else a) = A at *
  generalize hBb : (if either = true then max a b else b) = B at *
  have HAA := hid hA
  have HBB := hid hBb
  clear hA hBb
  dsimp only
  go_wp2_with fail
  have HX := hid ((HD.out.setX HEW.out 0 (.int .i64 A)).setX HEW.out 1 (.int .i64 B))
  simp only [List.setIfInBounds_toArray, List.set_cons_zero, List.set_cons_succ] at HX
  clear HD hlX fX0 fX1 hl x0 x1
  generalize (w6.setCell ⟨X, 0, none⟩ (.int .i64 A)).setCell ⟨X, 1, none⟩ (.int .i64 B) = W7 at *
  refine (t_is W7 rb tb _ _ s3 HX.out.tk [42]).mono ?_
  rintro e w8 ⟨rfl, hB8⟩
  have HY := hid (HX.out.below hB8)
  clear hB8 HX
  unfold Rs.mul at HZ
  cases hst : s3.is [42] with
  | false =>
    rw [hst, if_neg (by decide)] at HZ
    obtain rfl : Z = (⟨a, b, 1, ps⟩, s3) := HZ.out
    have hlX := HY.out.bx.lt
    have x0 := HY.out.xcell 0
    have x1 := HY.out.xcell 1
    have x2 := HY.out.xcell 2
    have x3 := HY.out.xcell 3
    simp only [List.getElem?_toArray, List.getElem?_cons_zero, List.getElem?_cons_succ] at x0 x1 x2 x3
    have hlR := HY.out.br.lt
    have r0 := HY.out.br.cell 0
    have r1 := HY.out.br.cell 1
    have r2 := HY.out.br.cell 2
    have r3 := HY.out.br.cell 3
    simp only [List.getElem?_toArray, List.getElem?_cons_zero, List.getElem?_cons_succ] at r0 r1 r2 r3
    have g0 := HY.out.br.frozen 0
    have g1 := HY.out.br.frozen 1
    have g2 := HY.out.br.frozen 2
    have g3 := HY.out.br.frozen 3
    clear HZ hst
    dsimp only
    go_wp2_with fail
    obtain ⟨W, hW⟩ : ∃ W, W = (((w8.setCell ⟨R, 0, none⟩ (.int .i64 A)).setCell ⟨R, 1, none⟩ (.int .i64 B)).setCell ⟨R, 2, none⟩ (.int .i64 1)).setCell ⟨R, 3, none⟩ (.int .i64 ps) := ⟨_, rfl⟩
    rw [← hW]
    obtain ⟨hload, ht, hg⟩ := HY.out.ret _ _ _ _ W hW
    refine bodyPost_ret (results_cell1' rfl rfl hload) rfl ⟨?_, ht, hg⟩
    rw [← HAA.out, ← HBB.out]
    rfl
  | true =>
    rw [hst, if_pos rfl] at HZ
    have HK := hid (Rs.is_kind hst).1
    clear hst
    dsimp only
    go_wp2_with fail
    refine (t_skip w8 rb tb _ _ s3 HY.out.tk HK.out).mono ?_
    rintro e w9 ⟨rfl, ht, hg⟩
    have HV := hid (HY.out.step ht hg)
    clear ht hg HY HK
    dsimp only
    go_wp2_with fail
    refine (t_number w9 rb tb _ _ _ HV.out.env.1 HV.out.tk 1 50).mono ?_
    rintro e w10 ⟨rfl, ht, hg⟩
    have HU := hid (HV.out.step ht hg)
    clear ht hg HV
    dsimp only at HZ ⊢
    generalize s3.skip.num 1 50 = p4 at *
    obtain ⟨m, s4⟩ := p4
    dsimp only at HU HZ ⊢
    obtain rfl : Z = (⟨a, b, m, ps⟩, s4) := HZ.out
    have hlX := HU.out.bx.lt
    have x2 := HU.out.xcell 2
    simp only [List.getElem?_toArray, List.getElem?_cons_zero, List.getElem?_cons_succ] at x2
    have fX2 := HU.out.bx.frozen 2
    have HW := hid (HU.out.setX HEW.out 2 (.int .i64 m))
    simp only [List.setIfInBounds_toArray, List.set_cons_zero, List.set_cons_succ] at HW
    have hlR := HU.out.br.lt
    clear HZ
    go_upto_region 9 with fail
    clear HU x2 fX2 hlX hlR
    generalize w10.setCell ⟨X, 2, none⟩ (.int .i64 m) = W11 at *
    have hlX := HW.out.bx.lt
    have x0 := HW.out.xcell 0
    have x1 := HW.out.xcell 1
    have x2 := HW.out.xcell 2
    have x3 := HW.out.xcell 3
    simp only [List.getElem?_toArray, List.getElem?_cons_zero, List.getElem?_cons_succ] at x0 x1 x2 x3
    have hlR := HW.out.br.lt
    have r0 := HW.out.br.cell 0
    have r1 := HW.out.br.cell 1
    have r2 := HW.out.br.cell 2
    have r3 := HW.out.br.cell 3
    simp only [List.getElem?_toArray, List.getElem?_cons_zero, List.getElem?_cons_succ] at r0 r1 r2 r3
    have g0 := HW.out.br.frozen 0
    have g1 := HW.out.br.frozen 1
    have g2 := HW.out.br.frozen 2
    have g3 := HW.out.br.frozen 3
    go_wp2_with fail
    obtain ⟨W, hW⟩ : ∃ W, W = (((W11.setCell ⟨R, 0, none⟩ (.int .i64 A)).setCell ⟨R, 1, none⟩ (.int .i64 B)).setCell ⟨R, 2, none⟩ (.int .i64 m)).setCell ⟨R, 3, none⟩ (.int .i64 ps) := ⟨_, rfl⟩
    rw [← hW]
    obtain ⟨hload, ht, hg⟩ := HW.out.ret _ _ _ _ W hW
    refine bodyPost_ret (results_cell1' rfl rfl hload) rfl ⟨?_, ht, hg⟩
    rw [← HAA.out, ← HBB.out]
    rfl

end Go.Proofs.YtemmepgfngkgmaaGreatDoor
