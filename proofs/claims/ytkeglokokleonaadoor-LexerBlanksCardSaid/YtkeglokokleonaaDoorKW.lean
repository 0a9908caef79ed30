/-
  LexerBlanks: the law's walk.
-/
import Derived.Test.YtkeglokokleonaaDoorKC
import Derived.Test.YtkeglokokleonaaDoorK21
import Derived.Shelf.Strings.Repeat
namespace Go.Proofs.YtkeglokokleonaaDoor
open Go.RowKit

def renW : Go.Shelf.Ren := ⟨fun | 99 => 20 | 105 => 24 | 165 => 47 | 166 => 23 | 169 => 25 | 170 => 31 | 206 => 43 | 212 => 46 | 240 => 45 | 241 => 67 | 263 => 65 | 264 => 66 | 276 => 64 | 277 => 81 | n => n, fun | 0 => 0 | 3 => 3 | 4 => 4 | 5 => 5 | 9 => 9 | 20 => 20 | 37 => 46 | 46 => 80 | 51 => 103 | 53 => 106 | 70 => 45 | 72 => 48 | 75 => 50 | 76 => 51 | 80 => 54 | 109 => 81 | 127 => 84 | 146 => 104 | 148 => 107 | 164 => 101 | n => n, fun | n => n⟩
theorem lay105 : Go.Proofs.Lays.n105 Tryd.prog renW :=
  { mixed := by kernel_rfl,
    f99 := by kernel_rfl,
    f105 := by kernel_rfl,
    f165 := by kernel_rfl,
    f166 := by kernel_rfl,
    f169 := by kernel_rfl,
    f170 := by kernel_rfl,
    f206 := by kernel_rfl,
    f212 := by kernel_rfl,
    f240 := by kernel_rfl,
    f241 := by kernel_rfl,
    f263 := by kernel_rfl,
    f264 := by kernel_rfl,
    f276 := by kernel_rfl,
    f277 := by kernel_rfl,
    t0 := by kernel_rfl,
    a0 := fun _ => by kernel_rfl,
    z0 := fun _ => by kernel_rfl,
    v0 := fun _ => by kernel_rfl,
    t3 := by kernel_rfl,
    a3 := fun _ => by kernel_rfl,
    z3 := fun _ => by kernel_rfl,
    v3 := fun _ => by kernel_rfl,
    t4 := by kernel_rfl,
    a4 := fun _ => by kernel_rfl,
    z4 := fun _ => by kernel_rfl,
    v4 := fun _ => by kernel_rfl,
    t5 := by kernel_rfl,
    a5 := fun _ => by kernel_rfl,
    z5 := fun _ => by kernel_rfl,
    v5 := fun _ => by kernel_rfl,
    t9 := by kernel_rfl,
    a9 := fun _ => by kernel_rfl,
    z9 := fun _ => by kernel_rfl,
    v9 := fun _ => by kernel_rfl,
    t20 := by kernel_rfl,
    a20 := fun _ => by kernel_rfl,
    z20 := fun _ => by kernel_rfl,
    v20 := fun _ => by kernel_rfl,
    t37 := by kernel_rfl,
    a37 := fun _ => by kernel_rfl,
    z37 := fun _ => by kernel_rfl,
    v37 := fun _ => by kernel_rfl,
    t46 := by kernel_rfl,
    a46 := fun _ => by kernel_rfl,
    z46 := fun _ => by kernel_rfl,
    v46 := fun _ => by kernel_rfl,
    t51 := by kernel_rfl,
    a51 := fun _ => by kernel_rfl,
    z51 := fun _ => by kernel_rfl,
    v51 := fun _ => by kernel_rfl,
    t53 := by kernel_rfl,
    a53 := fun _ => by kernel_rfl,
    z53 := fun _ => by kernel_rfl,
    v53 := fun _ => by kernel_rfl,
    t70 := by kernel_rfl,
    a70 := fun _ => by kernel_rfl,
    z70 := fun _ => by kernel_rfl,
    v70 := fun _ => by kernel_rfl,
    t72 := by kernel_rfl,
    a72 := fun _ => by kernel_rfl,
    z72 := fun _ => by kernel_rfl,
    v72 := fun _ => by kernel_rfl,
    t75 := by kernel_rfl,
    a75 := fun _ => by kernel_rfl,
    z75 := fun _ => by kernel_rfl,
    v75 := fun _ => by kernel_rfl,
    t76 := by kernel_rfl,
    a76 := fun _ => by kernel_rfl,
    z76 := fun _ => by kernel_rfl,
    v76 := fun _ => by kernel_rfl,
    t109 := by kernel_rfl,
    a109 := fun _ => by kernel_rfl,
    z109 := fun _ => by kernel_rfl,
    v109 := fun _ => by kernel_rfl,
    t127 := by kernel_rfl,
    a127 := fun _ => by kernel_rfl,
    z127 := fun _ => by kernel_rfl,
    v127 := fun _ => by kernel_rfl,
    t146 := by kernel_rfl,
    a146 := fun _ => by kernel_rfl,
    z146 := fun _ => by kernel_rfl,
    v146 := fun _ => by kernel_rfl,
    t148 := by kernel_rfl,
    a148 := fun _ => by kernel_rfl,
    z148 := fun _ => by kernel_rfl,
    v148 := fun _ => by kernel_rfl,
    t164 := by kernel_rfl,
    a164 := fun _ => by kernel_rfl,
    z164 := fun _ => by kernel_rfl,
    v164 := fun _ => by kernel_rfl }

theorem layXW : Go.Proofs.Builder.Extra Tryd.prog renW :=
  { sizeBuilder := by kernel_rfl, liesBuilder := by kernel_rfl, t5 := by kernel_rfl, a5 := fun _ => by kernel_rfl, z5 := fun _ => by kernel_rfl, v5 := fun _ => by kernel_rfl, infoByte := by kernel_rfl, cellsByte := by kernel_rfl, sizeByte := by kernel_rfl, neB5 := by decide }

theorem repeat_one (c : UInt8) : ∀ n, Lib.repeatL [c] n = List.replicate n c
  | 0 => rfl
  | n + 1 => by rw [Lib.repeatL, repeat_one c n]; rfl
theorem c_Repeat (n : Nat) (w : World) (hn : n ≤ 1000) : Calls Tryd.prog 24 #[.string { data := #[32] }, .int .i64 n] w fun e w' => e = .returned (.string (str (List.replicate n 32))) ∧ Below w.heap.size w w' := by
  have := Any.strings_Repeat lay105 layXW { data := #[32] } n w (by omega) (by show 1 * n ≤ _; omega)
  rw [show ({ data := #[32] } : ByteArray).data.toList = [32] from rfl, repeat_one] at this
  exact this

/-- The text with so many blanks ahead of each token. -/
def gl (n : Nat) (l : List Tok) : List UInt8 := l.flatMap fun t => List.replicate n 32 ++ t.text
theorem gl_snoc (n : Nat) (l : List Tok) (k : Nat) (hk : k < l.length) : gl n (l.take (k + 1)) = gl n (l.take k) ++ (List.replicate n 32 ++ (l[k]?.getD default).text) := by
  rw [List.take_succ_eq_append_getElem hk, List.getElem?_eq_getElem hk]
  simp only [gl, List.flatMap_append, List.flatMap_cons, List.flatMap_nil, List.append_nil, Option.getD_some]
theorem gl_glue (n : Nat) (q : Int) : ∀ l : List Tok, gl n (l ++ [⟨3, [], q⟩]) = glue (l.map fun t => (n, t)) n
  | [] => by simp [gl, glue]
  | t :: l => by
    have := gl_glue n q l
    simp only [gl, List.cons_append, List.flatMap_cons, List.map_cons, glue] at this ⊢
    rw [this, List.append_assoc]
theorem gl_len (n : Nat) (l : List Tok) : (gl n l).length = n * l.length + (l.map fun t => t.text.length).sum := by
  induction l with
  | nil => simp [gl]
  | cons t l ih =>
    simp only [gl, List.flatMap_cons, List.length_append, List.length_replicate, List.map_cons, List.sum_cons, List.length_cons] at ih ⊢
    rw [ih, Nat.mul_add]; omega
theorem scan_sum : ∀ (n : Nat) (s : List UInt8) (p : Nat) (l : List Tok), s.length < n → fuelS s p = .inr l → (l.map fun t => t.text.length).sum ≤ s.length
  | 0, _, _, _, h, _ => by omega
  | n + 1, [], p, l, _, h => by rw [fuelS_end] at h; injection h with h; rw [← h]; simp
  | n + 1, c :: r, p, l, hn, h => by
    simp only [List.length_cons] at hn
    by_cases hc : c = 32
    · subst hc; rw [fuelS_blank] at h
      have := scan_sum n r (p + 1) l (by omega) h
      simp only [List.length_cons]; omega
    · by_cases he : tokErr (kindOf c) (runOf (c :: r)) = 0
      · rw [fuelS_tok c r p hc he] at h
        have hr := runOf_len c r
        cases hz : fuelS ((c :: r).drop (runOf (c :: r)).length) (p + (runOf (c :: r)).length) with
        | inl x => rw [hz] at h; simp [Scn.pre] at h
        | inr l1 =>
          rw [hz] at h
          simp only [Scn.pre] at h
          injection h with h
          have := scan_sum n _ _ l1 (by rw [List.length_drop]; simp only [List.length_cons] at *; omega) hz
          rw [List.length_drop] at this
          rw [← h]; simp only [List.map_append, List.map_cons, List.map_nil, List.sum_append, List.sum_cons, List.sum_nil, List.length_cons] at *; omega
      · rw [fuelS_err c r p hc he] at h; exact absurd h (by simp)
theorem sepd_all (n : Nat) (hn : 0 < n) : ∀ (l : List Tok) (b : Bool), sepd b (l.map fun t => (n, t))
  | [], _ => trivial
  | _ :: l, _ => ⟨fun _ _ => hn, sepd_all n hn l _⟩
theorem scan_gl {s : List UInt8} {l : List Tok} (hs : s.length ≤ 400) (h : scanR s = .inr l) (n : Nat) (h0 : 0 < n) (h4 : n ≤ 4) :
    (∃ l', scanR (gl n l) = .inr l' ∧ l'.map Tok.bare = l.map Tok.bare) ∧ (∀ k, (gl n (l.take k)).length ≤ 10000000) := by
  have h1 := scan_sum (s.length + 1) s 0 l (by omega) (scanR_fuel h).2
  have h2 := scan_count (s.length + 1) s 0 l (by omega) (scanR_fuel h).2
  have hm : n * l.length ≤ 4 * 401 := Nat.mul_le_mul h4 (by omega)
  have h3 := gl_len n l
  refine ⟨?_, fun k => ?_⟩
  · obtain ⟨l0, q, rfl, ho⟩ := scanR_toks h
    obtain ⟨l', e1, e2⟩ := scan_glue n (l0.map fun t => (n, t)) false 0 (fun x hx => by obtain ⟨t, ht, rfl⟩ := List.mem_map.1 hx; exact ho t ht) (sepd_all n h0 l0 false)
    rw [← gl_glue n q] at e1
    refine ⟨l', scanR_back (by omega) e1, ?_⟩
    rw [e2]; simp [Tok.bare]
  · rw [gl_len]
    have : (l.take k).length ≤ 401 := by rw [List.length_take]; omega
    have h5 : n * (l.take k).length ≤ 4 * 401 := Nat.mul_le_mul h4 this
    have h6 : ((l.take k).map fun t => t.text.length).sum ≤ (l.map fun t => t.text.length).sum := by
      conv => rhs; rw [← List.take_append_drop k l, List.map_append, List.sum_append]
      omega
    omega

set_option maxRecDepth 100000 in
set_option maxHeartbeats 8000000 in
theorem l_Blanks (s : List UInt8) (m : Int) (hm0 : 0 ≤ m) (hm1 : m < 256) (w : World) : Calls Tryd.prog 8 #[.string (str s), .int .u8 m] w fun e w' => e = .returned (.bool true) ∧ Below w.heap.size w w' := by
  have hD := hid l_awake
  have hsz := str_size s
  by_cases q : (400 : Int) < ((str s).size : Int)
  · clear hsz
    go_enter Tryd.func8, Tryd.ntmps8
    go_wp2_with fail
    refine (hD.out _).mono ?_
    rintro e w1 ⟨rfl, hB⟩
    go_simp
    go_wp2_with fail
    go_ret
    exact ⟨rfl, hB⟩
  · have hG := hid (got_p s w)
    have hl4 : s.length ≤ 400 := by omega
    cases hz : scanR s with
    | inl x =>
      have hx := scanR_err hz
      rw [hz] at hG
      obtain ⟨x1, x2⟩ := x
      have hx' : (x2 != 0) = true := by simpa using hx
      clear hx hz hsz hl4
      go_enter Tryd.func8, Tryd.ntmps8
      go_wp2_with fail
      refine hG.out.mono ?_
      rintro e w1 ⟨v, rfl, _, hB⟩
      simp only [Scn.at', Scn.no]
      go_simp
      go_wp2_with fail
      refine (hD.out _).mono ?_
      rintro e w2 ⟨rfl, hB2⟩
      go_simp
      go_wp2_with fail
      go_ret
      exact ⟨rfl, up hB hB2⟩
    | inr l =>
      obtain ⟨n, hn⟩ : ∃ n : Nat, (n : Int) = 1 + Int.tmod m 4 := ⟨(1 + Int.tmod m 4).toNat, by have := Int.tmod_nonneg 4 hm0; omega⟩
      have hn4 : n ≤ 4 := by have := Int.tmod_lt_of_pos m (by decide : (0:Int) < 4); omega
      have hn0 : 0 < n := by have := Int.tmod_nonneg 4 hm0; omega
      obtain ⟨⟨l', hs', hbb⟩, hgl⟩ := scan_gl hl4 hz n hn0 hn4
      have hcn := scanR_count s
      rw [hz] at hG hcn
      have HCN : Hid (l.length ≤ 4097) := hcn
      have HGL := hid hgl
      have hcn2 := scanR_count (gl n l)
      rw [hs'] at hcn2
      have HC2N : Hid (l'.length ≤ 4097) := hcn2
      have hGG := got_p (gl n l)
      rw [hs'] at hGG
      have HGG := hid hGG
      have HBB := hid hbb
      have HN := hid hn
      have HN4 := hid hn4
      have HTX : Hid (∀ k : Nat, ((l[k]?.getD default : Tok)).text.length ≤ 1024) := scanR_texts hz
      clear hz hl4 hsz hcn hgl hcn2 hs' hGG hbb hn hn4 hn0
      go_enter Tryd.func8, Tryd.ntmps8
      go_wp2_with fail
      refine hG.out.mono ?_
      rintro e w1 ⟨v, rfl, hv, hB⟩
      have HV : Hid (ToksR w1 v l) := hv
      obtain ⟨a, cap, rfl, _, _, _, hc⟩ := HV.out
      simp only [Scn.at', Scn.no]
      clear hv
      go_simp
      go_wp2_with fail
      go_loopw [28] (fun i wr => ∃ k : Nat, k ≤ l.length ∧ i = .int .i64 k ∧ Hid (Bld w1.heap.size w1.heap.size (gl n (l.take k)) wr) ∧ Below w1.heap.size w1 wr) (fun i _ => l.length - (intOf i).toNat)
      case atStart => exact ⟨0, Nat.zero_le _, rfl, by rw [List.take_zero]; exact Bld.fresh w1, (Below.refl _ _).alloc (Nat.le_refl _) _⟩
      case round =>
        obtain ⟨k, hk, rfl, HW, hBB⟩ := hrel
        by_cases hkt : k < l.length
        · obtain ⟨b, off, rfl, hb, hx⟩ := (hc.below hBB).tok (by omega)
          obtain ⟨x1, x2, x3⟩ := hx k hkt
          have HSN := hid (gl_snoc n l k hkt)
          have HTX1 := hid (HTX.out k)
          generalize (l[k]?.getD default).kind = kd at *
          generalize (l[k]?.getD default).text = tx at *
          generalize (l[k]?.getD default).pos = ps at *
          clear hx
          go_wp2_with fail
          obtain ⟨W, hW⟩ : ∃ W, W = wr.alloc (.cells #[.int .i64 kd, .string (str tx), .int .i64 ps] 40) := ⟨_, rfl⟩
          rw [← hW]
          have hWB : Below wr.heap.size wr W := by rw [hW]; exact (Below.refl _ _).alloc (Nat.le_refl _) _
          have hWs : wr.heap.size < W.heap.size := by rw [hW]; simp
          have hc3 := cell_new3 wr (.int .i64 kd) (.string (str tx)) (.int .i64 ps) 40
          rw [← hW] at hc3
          have HC : Hid (∀ w', Below W.heap.size W w' → w'.cell? ⟨wr.heap.size, 1, none⟩ = some (.string (str tx)) ∧ wr.heap.size < w'.heap.size) := fun w' h => by
            obtain ⟨q1, _⟩ := bcell h
            exact ⟨(q1 _ _ hWs).trans hc3.2.1, Nat.lt_of_lt_of_le hWs h.size⟩
          have HBW := hid (up hBB hWB)
          have HW2 : Hid (Bld w1.heap.size w1.heap.size (gl n (l.take k)) W) := HW.out.below hWB
          have htm : IntKind.i64.wrap (1 + (IntKind.i64.wrap m).tmod 4) = (n : Int) := by
            have h1 : IntKind.i64.wrap m = m := by simp [IntKind.wrap, IntKind.signed, IntKind.bits]; omega
            rw [h1, ← HN.out]
            have := HN4.out
            simp [IntKind.wrap, IntKind.signed, IntKind.bits]; omega
          clear hc3 hWs hWB hBB x1 x2 x3 hW hb hc HW
          let S : World → Prop := fun w' => w'.cell? ⟨wr.heap.size, 1, none⟩ = some (.string (str tx)) ∧ wr.heap.size < w'.heap.size
          (refine wp_region_text 8 [0,1,2,3,5,6,4,7] S (by kernel_rfl) (by kernel_rfl) (by intro _ _ d _ _ h; cases d <;> exact h) ?hS ?_; rotate_left; simp only [List.map_cons, List.map_nil, List.getD_cons_zero, List.getD_cons_succ, List.drop_succ_cons, List.drop_zero])
          case hS => exact HC.out _ (Below.refl _ _).drew
          (refine' wpSeq_take rfl _ (by rfl) ?_ ?_; rotate_left; focus (intro w' hS; (try dsimp only at hS); obtain ⟨z1, z2⟩ := hS; go_simp; (first | done | with_reducible rfl)); (try simp only [Act.put, List.setIfInBounds_toArray, List.set_cons_zero, List.set_cons_succ]))
          (try simp only [Act.put, List.setIfInBounds_toArray, List.set_cons_zero, List.set_cons_succ])
          (refine' wpSeq_take rfl _ (by rfl) ?_ ?_; rotate_left; focus (intro w' hS; (try dsimp only at hS); obtain ⟨z1, z2⟩ := hS; go_simp; (first | done | with_reducible rfl)); (try simp only [Act.put, List.setIfInBounds_toArray, List.set_cons_zero, List.set_cons_succ]))
          (try simp only [Act.put, List.setIfInBounds_toArray, List.set_cons_zero, List.set_cons_succ])
          (refine' wpSeq_take rfl _ (by rfl) ?_ ?_; rotate_left; focus (intro w' hS; (try dsimp only at hS); obtain ⟨z1, z2⟩ := hS; go_simp; (first | done | with_reducible rfl)); (try simp only [Act.put, List.setIfInBounds_toArray, List.set_cons_zero, List.set_cons_succ]))
          (try simp only [Act.put, List.setIfInBounds_toArray, List.set_cons_zero, List.set_cons_succ])
          (refine' wpSeq_take rfl _ (by rfl) ?_ ?_; rotate_left; focus (intro w' hS; (try dsimp only at hS); obtain ⟨z1, z2⟩ := hS; go_simp; (first | done | with_reducible rfl)); (try simp only [Act.put, List.setIfInBounds_toArray, List.set_cons_zero, List.set_cons_succ]))
          (try simp only [Act.put, List.setIfInBounds_toArray, List.set_cons_zero, List.set_cons_succ])
          (refine' wpSeq_take rfl _ (by rfl) ?_ ?_; rotate_left; focus (intro w' hS; (try dsimp only at hS); obtain ⟨z1, z2⟩ := hS; go_simp; (first | done | with_reducible rfl)); (try simp only [Act.put, List.setIfInBounds_toArray, List.set_cons_zero, List.set_cons_succ]))
          (try simp only [Act.put, List.setIfInBounds_toArray, List.set_cons_zero, List.set_cons_succ])
          (refine' wpSeq_take rfl _ (by rfl) ?_ ?_; rotate_left; focus (intro w' hS; (try dsimp only at hS); obtain ⟨z1, z2⟩ := hS; go_simp; (first | done | with_reducible rfl)); (try simp only [Act.put, List.setIfInBounds_toArray, List.set_cons_zero, List.set_cons_succ]))
          (try simp only [Act.put, List.setIfInBounds_toArray, List.set_cons_zero, List.set_cons_succ])
          (try rw [htm])
          (refine wpSeq_call rfl (by rfl) (fun K hK => ?_); go_simp; refine ((c_Repeat n _ (by have := HN4.out; omega))).mono ?_; rintro e w2 ⟨rfl, hB2⟩; refine hK _ _ (HC.out _ (up (Below.refl _ _).drew hB2)) ?_; clear hK K; (try simp only [Act.put, List.setIfInBounds_toArray, List.set_cons_zero, List.set_cons_succ]))
          (try simp only [Act.put, List.setIfInBounds_toArray, List.set_cons_zero, List.set_cons_succ])
          have HB2 := hid (up (Below.refl _ _).drew hB2)
          clear hB2
          have hcat : ¬ 9223372036854775807 < (str (List.replicate n 32)).size + (str tx).size := by
            rw [str_size, str_size, List.length_replicate]; have := HN4.out; have := HTX1.out; omega
          (refine' wpSeq_take rfl _ (by rfl) ?_ ?_; rotate_left; focus (intro w' hS; (try dsimp only at hS); obtain ⟨z1, z2⟩ := hS; go_simp; (first | done | with_reducible rfl)); (try simp only [Act.put, List.setIfInBounds_toArray, List.set_cons_zero, List.set_cons_succ]))
          (try simp only [Act.put, List.setIfInBounds_toArray, List.set_cons_zero, List.set_cons_succ])
          refine wpSeq_nil ?_
          clear S HC htm
          go_wp2_with fail
          rw [str_append]
          have HW3 : Hid (Bld w1.heap.size w1.heap.size (gl n (l.take k)) w2) := HW2.out.below HB2.out
          have hBB2 := up HBW.out HB2.out
          refine (c_WriteString w1.heap.size w1.heap.size (gl n (l.take k)) (List.replicate n 32 ++ tx) w2 HW3.out (by have := HGL.out k; omega) (by have := HN4.out; have := HTX1.out; simp; omega)).mono ?_
          rintro e w4 ⟨vv, rfl, hbd4, hB4, _⟩
          rw [← HSN.out] at hbd4
          have HBD4 := hid hbd4
          have hBB4 := hBB2.trans hB4
          clear hbd4 hB4 hBB2 hcat
          go_simp
          go_wp2_with fail
          exact ⟨⟨k + 1, by omega, by simp, HBD4, hBB4⟩, by simp [intOf]; omega⟩
        · have hkl : k = l.length := by omega
          have HW3 : Hid (Bld w1.heap.size w1.heap.size (gl n l) wr) := by
            have := HW.out
            rw [hkl, List.take_length] at this
            exact this
          clear HW hkl
          go_wp2_with fail
          refine (c_String w1.heap.size w1.heap.size (gl n l) wr HW3.out).mono ?_
          rintro e w2 ⟨rfl, hB2⟩
          have hB := up hB (hBB.trans hB2)
          have hVB := hBB.trans hB2
          clear hBB hB2
          go_simp
          go_wp2_with fail
          refine (HGG.out _).mono ?_
          rintro e w3 ⟨u, rfl, hu, hB3⟩
          have hB := up hB hB3
          have hVB := up hVB hB3
          clear hB3
          simp only [Scn.at', Scn.no, Scn.toks] at hu ⊢
          go_simp
          go_wp2_with fail
          refine (c_bare l _ _ (HV.out.below hVB) (by have := HCN.out; omega)).mono ?_
          rintro e w4 ⟨v1, rfl, hv1, hB4⟩
          have hu := hu.below hB4
          have hB := up hB hB4
          clear hB4 hVB
          go_simp
          go_wp2_with fail
          refine (c_bare l' _ _ hu (by have := HC2N.out; omega)).mono ?_
          rintro e w5 ⟨v2, rfl, hv2, hB5⟩
          have hv1 := hv1.below hB5
          have hB := up hB hB5
          rw [HBB.out] at hv2
          clear hB5
          have hEQ : Hid (Calls Tryd.prog 21 #[v1, v2] w5 fun e w' => e = .returned (.bool true) ∧ Below w5.heap.size w5 w') := by
            have := c_Equal _ _ v1 v2 w5 hv1 hv2
            rw [show decide (l.map Tok.bare = l.map Tok.bare) = true from decide_eq_true rfl] at this
            exact this
          go_simp
          go_wp2_with fail
          refine hEQ.out.mono ?_
          rintro e w6 ⟨rfl, hB6⟩
          have hB := up hB hB6
          clear hB6
          go_simp
          go_wp2_with fail
          refine (hD.out _).mono ?_
          rintro e w7 ⟨rfl, hB7⟩
          go_simp
          go_wp2_with fail
          go_ret
          exact ⟨rfl, up hB hB7⟩

theorem und_u8 : Tryd.prog.underlying 5 = some (.int .u8) := by kernel_rfl
theorem u8_lo {n : Int} (h : (Lit.int IntKind.u8 n).wf = true) : 0 ≤ n := by
  have e : IntKind.u8.min = 0 := rfl
  simp [Lit.wf, e] at h; omega
theorem u8_hi {n : Int} (h : (Lit.int IntKind.u8 n).wf = true) : n < 256 := by
  have e : IntKind.u8.max = 255 := rfl
  simp [Lit.wf, e] at h; omega

end Go.Proofs.YtkeglokokleonaaDoor
