/-
  Lists of a ribbon graph: plain, and in memory. Contract of the notation: lists.
-/
import Derived.Test.YtemmepgfngkgmaaGreatDoorN22
import Derived.Deep.AppendLies
namespace Go.Proofs.YtemmepgfngkgmaaGreatDoor
open Go.RowKit
set_option linter.unusedVariables false
set_option linter.unusedSimpArgs false

/-! ## lists, plain -/
theorem listsG_end {n half : Int} {ls : List (List Int)} {s : Rs} (h : s.more = false) (f : Nat) : listsG n half f ls s = (ls, s) := by
  cases f with
  | zero => rfl
  | succ f => unfold listsG; rw [if_pos h]
theorem listsG_num {n half : Int} {ls : List (List Int)} {s : Rs} (h : s.more = true) (hi : s.is [47] = false) (f : Nat) :
    listsG n half (f + 1) ls s = listsG n half f (putLast ls (s.num 0 (half - 1)).1) (s.num 0 (half - 1)).2 := by
  conv => lhs; unfold listsG
  rw [if_neg (by rw [h]; decide), if_pos hi]
def shapeF (n : Int) (ls : List (List Int)) (s : Rs) : Rs := if (ls.length : Int) = n then s.fail 8 s.now.pos else s
theorem listsG_sep {n half : Int} {ls : List (List Int)} {s : Rs} (h : s.more = true) (hi : s.is [47] = true) (f : Nat) :
    listsG n half (f + 1) ls s = listsG n half f (ls ++ [[]]) (shapeF n ls s).skip := by
  conv => lhs; unfold listsG
  rw [if_neg (by rw [h]; decide), if_neg (by rw [hi]; decide)]
  rfl
theorem shapeF_ts (n : Int) (ls : List (List Int)) (s : Rs) : (shapeF n ls s).ts = s.ts := by unfold shapeF; split <;> simp [fail_ts]
theorem listsG_fuel (n half : Int) : ∀ (f g : Nat) (ls : List (List Int)) (s : Rs), TsOk s.ts → s.ts.length ≤ f → s.ts.length ≤ g → listsG n half f ls s = listsG n half g ls s
  | 0, _, ls, s, h, h1, _ => by have := h.1; omega
  | _, 0, ls, s, h, _, h2 => by have := h.1; omega
  | f + 1, g + 1, ls, s, h, h1, h2 => by
    cases hm : s.more with
    | false => rw [listsG_end hm, listsG_end hm]
    | true =>
      cases hi : s.is [47] with
      | false =>
        rw [listsG_num hm hi, listsG_num hm hi]
        obtain ⟨t1, t2, t3⟩ := num_ts h 0 (half - 1)
        by_cases he : (s.num 0 (half - 1)).2.e = 0
        · have := t3 he
          exact listsG_fuel n half f g _ _ t1 (by omega) (by omega)
        · rw [listsG_end (not_more he), listsG_end (not_more he)]
      | true =>
        rw [listsG_sep hm hi, listsG_sep hm hi]
        have hk := kind_len h (Rs.is_kind hi).1
        have e : (shapeF n ls s).skip.ts = s.skip.ts := by show (shapeF n ls s).ts.drop 1 = s.ts.drop 1; rw [shapeF_ts]
        exact listsG_fuel n half f g _ _ (by rw [e]; exact hk.1) (by rw [e]; omega) (by rw [e]; omega)
theorem putLast_set (ls : List (List Int)) (j : Nat) (h : ls.length = j + 1) (x : Int) : putLast ls x = ls.set j ((ls[j]?.getD []) ++ [x]) := by
  unfold putLast
  have hne : ls ≠ [] := fun e => by rw [e] at h; simp at h
  have e1 : ls.getLast?.getD [] = ls[j]?.getD [] := by rw [List.getLast?_eq_getElem?, h, Nat.add_sub_cancel]
  rw [e1]
  generalize (ls[j]?.getD []) ++ [x] = q
  conv => rhs; rw [← List.dropLast_concat_getLast hne]
  rw [List.set_append_right _ _ (by rw [List.length_dropLast]; omega), List.length_dropLast, h]
  simp
/-- How the lists end. -/
def finL (n : Int) (z : List (List Int) × Rs) : Rs := if z.2.e = 0 ∧ (z.1.length : Int) ≠ n then z.2.fail 8 z.2.now.pos else z.2
/-- There are at most c lists, of at most c numbers. -/
def LB (c : Nat) (ls : List (List Int)) : Prop := ls.length ≤ c ∧ ∀ j : Nat, (ls[j]?.getD []).length ≤ c
theorem LB.put {c : Nat} {ls : List (List Int)} (h : LB c ls) (j : Nat) (x : Int) : LB (c + 1) (ls.set j ((ls[j]?.getD []) ++ [x])) := by
  refine ⟨by rw [List.length_set]; have := h.1; omega, fun k => ?_⟩
  rw [List.getElem?_set]
  split
  · split
    · have := h.2 j; simp; omega
    · simp
  · have := h.2 k; omega
theorem LB.push {c : Nat} {ls : List (List Int)} (h : LB c ls) : LB (c + 1) (ls ++ [[]]) := by
  refine ⟨by rw [List.length_append]; have := h.1; simp; omega, fun k => ?_⟩
  by_cases hk : k < ls.length
  · rw [List.getElem?_append_left hk]; have := h.2 k; omega
  · rw [List.getElem?_append_right (by omega)]
    have e : ([[]] : List (List Int))[k - ls.length]?.getD [] = [] := by cases (k - ls.length) <;> rfl
    rw [e]; simp

/-! ## lists in memory -/
/-- v is a slice of slices of integers that holds ls in w. -/
def LsR (w : World) (v : Value) (ls : List (List Int)) : Prop :=
  ∃ a cap vs, v = .slice a ls.length cap ∧ ls.length ≤ cap ∧ cap ≤ 9223372036854775807 ∧ ls.length * 24 ≤ 140737488355328 ∧ CellsAt w a vs ∧ vs.length = ls.length ∧ ∀ i, i < ls.length → IntsR w (vs[i]?.getD undef) (ls[i]?.getD [])
theorem LsR.below {w w' : World} {v : Value} {ls : List (List Int)} (h : LsR w v ls) (hb : Below w.heap.size w w') : LsR w' v ls := by
  obtain ⟨a, cap, vs, h1, h2, h3, h4, h5, h6, h7⟩ := h
  exact ⟨a, cap, vs, h1, h2, h3, h4, h5.below hb, h6, fun i hi => (h7 i hi).below hb⟩
theorem own_type {w : World} {base : Nat} {e : TypeId} {size : Nat} {v : Value} {n k : Nat} {xs : List Value} (h : w.ownsRow base e size v n xs) (hk : v.ownBlock = some k) : ∃ cur, w.heap[k]? = some (.cells cur e) := by
  rcases h.2 with ⟨rfl, _⟩ | ⟨g, cap, cur, rfl, h2, h3, _⟩
  · cases hk
  · obtain rfl : g = k := by simpa [Value.ownBlock] using hk
    exact ⟨cur, h3⟩
theorem own_frozen {w : World} {base : Nat} {e : TypeId} {size : Nat} {v : Value} {n k : Nat} {xs : List Value} (h : w.ownsRow base e size v n xs) (hk : v.ownBlock = some k) (j : Nat) : w.frozen? ⟨k, j, none⟩ = false := by
  rcases h.2 with ⟨rfl, _⟩ | ⟨g, cap, cur, rfl, h2, h3, _⟩
  · cases hk
  · obtain rfl : g = k := by simpa [Value.ownBlock] using hk
    simp [World.frozen?, h3]
theorem own_differ {w : World} {base base' : Nat} {e e' : TypeId} {size size' : Nat} {v v' : Value} {n n' : Nat} {xs xs' : List Value} (h : w.ownsRow base e size v n xs) (h' : w.ownsRow base' e' size' v' n' xs') (hne : e ≠ e') {k : Nat} (hk : v.ownBlock = some k) : v'.ownBlock ≠ some k := by
  intro hk'
  obtain ⟨c, hc⟩ := own_type h hk
  obtain ⟨c', hc'⟩ := own_type h' hk'
  rw [hc] at hc'
  injection hc' with hc'
  injection hc' with _ q
  exact hne q
theorem owns_new1 (w : World) (u : Value) (e : TypeId) : (w.alloc (.cells #[u] e)).ownsRow w.heap.size e 1 (.slice (some ⟨w.heap.size, 0, none⟩) 1 1) 1 [u] := by
  have hb := Blk.new w #[u] e
  exact ⟨rfl, .inr ⟨w.heap.size, 1, #[u], rfl, Nat.le_refl _, hb, Nat.le_refl _, by unfold maxLen; omega, rfl, rfl⟩⟩

structure LsI (w0 w : World) (rb tb : Nat) (T : TypeId) (rest : List Value) (v : Value) (vs : List Value) (ls : List (List Int)) (s : Rs) : Prop where
  own : w.ownsRow w0.heap.size 50 1 v ls.length vs
  rows : ∀ i, i < ls.length → w.ownsRow w0.heap.size 3 1 (vs[i]?.getD undef) (ls[i]?.getD []).length ((ls[i]?.getD []).map (Value.int .i64))
  dis : ∀ i j k, i < ls.length → j < ls.length → (vs[i]?.getD undef).ownBlock = some k → (vs[j]?.getD undef).ownBlock = some k → i = j
  tk : Tk w rb tb T rest s
  g : w0.grownBy w (some rb)
  env : EnvB w rb
  env0 : Env w0
  hrb : rb < w0.heap.size
  htb : tb < w0.heap.size
section
variable {w0 w w' : World} {rb tb : Nat} {T : TypeId} {rest : List Value} {v v' : Value} {vs : List Value} {ls : List (List Int)} {s s' : Rs}
theorem LsI.len (h : LsI w0 w rb tb T rest v vs ls s) : vs.length = ls.length := by have := h.own.1; omega
theorem LsI.dio (h : LsI w0 w rb tb T rest v vs ls s) {i k : Nat} (hi : i < ls.length) (hk : (vs[i]?.getD undef).ownBlock = some k) : v.ownBlock ≠ some k := own_differ (h.rows i hi) h.own (by decide) hk
theorem LsI.step (h : LsI w0 w rb tb T rest v vs ls s) (ht : Tk w' rb tb T rest s') (hg : w.grownBy w' (some rb)) : LsI w0 w' rb tb T rest v vs ls s' := by
  have hrb := h.hrb
  refine ⟨h.own.kept hg ?_, fun i hi => (h.rows i hi).kept hg ?_, h.dis, ht, grown_trans h.g hg, h.env.grown hg, h.env0, h.hrb, h.htb⟩
  · cases hv : v.ownBlock with
    | none => exact .inl rfl
    | some k => exact .inr (by have := (h.own.lt k hv).1; simp; omega)
  · cases hv : (vs[i]?.getD undef).ownBlock with
    | none => exact .inl rfl
    | some k => exact .inr (by have := ((h.rows i hi).lt k hv).1; simp; omega)
theorem LsI.below (h : LsI w0 w rb tb T rest v vs ls s) (hB : Below w.heap.size w w') : LsI w0 w' rb tb T rest v vs ls s := h.step (h.tk.below hB) (grown_of hB _)
theorem kept_env {w0 w w' : World} {rb : Nat} {r : Option Nat} (h : EnvB w rb) (h0 : Env w0) (hg : w.grownBy w' r) (hr : ∀ k, r = some k → w0.heap.size ≤ k) : EnvB w' rb := by
  have he := h0.lt
  refine ⟨?_, h.2⟩
  cases hv : r with
  | none =>
    rw [hv] at hg
    exact h.1.below ⟨hg.os, hg.tape, hg.output, hg.size, fun k hk => hg.block k hk (by simp)⟩
  | some k =>
    rw [hv] at hg
    have := hr k hv
    exact h.1.grown hg (fun _ _ => by omega) (fun g' hg' => by rw [pow_g] at hg'; have := Option.some.inj hg'; omega)
theorem kept_g {w0 w w' : World} {rb : Nat} {r : Option Nat} (h : w0.grownBy w (some rb)) (hg : w.grownBy w' r) (hr : ∀ k, r = some k → w0.heap.size ≤ k) : w0.grownBy w' (some rb) := by
  refine ⟨h.os ▸ hg.os, h.tape ▸ hg.tape, h.output ▸ hg.output, Nat.le_trans h.size hg.size, fun k hk hne => ?_⟩
  rw [hg.block k (Nat.lt_of_lt_of_le hk h.size) (fun e => by have := hr _ e.symm; omega)]
  exact h.block k hk hne
/-- A row is kept where another block is written. -/
theorem kept_row {w w' : World} {r : Option Nat} {base : Nat} {e : TypeId} {size : Nat} {u : Value} {n : Nat} {xs : List Value} (h : w.ownsRow base e size u n xs) (hg : w.grownBy w' r) (hne : ∀ k, u.ownBlock = some k → r ≠ some k) : w'.ownsRow base e size u n xs := by
  refine h.kept hg ?_
  cases hv : u.ownBlock with
  | none => exact .inl rfl
  | some k => exact .inr (fun e => hne k hv e.symm)
/-- A number more in a row, and the row put back. -/
theorem LsI.app {g cap i bn cn : Nat} {l' : List Int} (h : LsI w0 w rb tb T rest (.slice (some ⟨g, 0, none⟩) ls.length cap) vs ls s) (hi : i < ls.length)
    (ho : w'.ownsRow w0.heap.size 3 1 (.slice (some ⟨bn, 0, none⟩) l'.length cn) l'.length (l'.map (Value.int .i64))) (hg : w.grownBy w' (vs[i]?.getD undef).ownBlock) (hat : (vs[i]?.getD undef).ownBlock = some bn ∨ w.heap.size ≤ bn) :
    LsI w0 (w'.setCell ⟨g, i, none⟩ (.slice (some ⟨bn, 0, none⟩) l'.length cn)) rb tb T rest (.slice (some ⟨g, 0, none⟩) ls.length cap) (vs.set i (.slice (some ⟨bn, 0, none⟩) l'.length cn)) (ls.set i l') s := by
  have hlen := h.len
  have hrb := h.hrb
  have htb := h.htb
  have hb : ∀ k, (vs[i]?.getD undef).ownBlock = some k → w0.heap.size ≤ k := fun k hk => ((h.rows i hi).lt k hk).1
  have hgb := (h.own.lt g rfl).1
  have hgl := (h.own.lt g rfl).2
  have ho1 : w'.ownsRow w0.heap.size 50 1 (.slice (some ⟨g, 0, none⟩) ls.length cap) ls.length vs := kept_row h.own hg (fun k hk e => h.dio hi e hk)
  have hgs : w'.grownBy (w'.setCell ⟨g, i, none⟩ (.slice (some ⟨bn, 0, none⟩) l'.length cn)) (some g) := grown_set _ _ _ _
  have hgk : ∀ k, some g = some k → w0.heap.size ≤ k := fun k e => by cases e; exact hgb
  have hgi : (vs.set i (.slice (some ⟨bn, 0, none⟩) l'.length cn))[i]?.getD undef = .slice (some ⟨bn, 0, none⟩) l'.length cn := by simp [show i < vs.length by omega]
  have hgj : ∀ j, j ≠ i → (vs.set i (.slice (some ⟨bn, 0, none⟩) l'.length cn))[j]?.getD undef = vs[j]?.getD undef := fun j hj => by rw [List.getElem?_set_ne (Ne.symm hj)]
  refine ⟨?_, fun j hj => ?_, fun j k b hj hk h1 h2 => ?_, ?_, kept_g (kept_g h.g hg hb) hgs hgk, kept_env (kept_env h.env h.env0 hg hb) h.env0 hgs hgk, h.env0, hrb, htb⟩
  · rw [List.length_set]
    exact (ho1.stored i _).1
  · rw [List.length_set] at hj
    by_cases hji : j = i
    · subst hji
      rw [hgi]
      have e2 : (ls.set j l')[j]?.getD [] = l' := by simp [hj]
      rw [e2]
      exact kept_row ho hgs (fun k hk e => own_differ ho ho1 (by decide) hk e)
    · rw [hgj j hji, List.getElem?_set_ne (Ne.symm hji)]
      refine kept_row (kept_row (h.rows j hj) hg (fun k hk e => hji (h.dis j i k hj hi hk e))) hgs (fun k hk e => ?_)
      exact h.dio hj hk e
  · rw [List.length_set] at hj hk
    by_cases hji : j = i
    · by_cases hki : k = i
      · omega
      · exfalso
        subst hji
        rw [hgi] at h1
        rw [hgj k hki] at h2
        obtain rfl : bn = b := by simpa [Value.ownBlock] using h1
        rcases hat with hat | hat
        · exact hki (h.dis k j bn hk hj h2 hat)
        · have := ((h.rows k hk).lt bn h2).2; omega
    · by_cases hki : k = i
      · exfalso
        subst hki
        rw [hgi] at h2
        rw [hgj j hji] at h1
        obtain rfl : bn = b := by simpa [Value.ownBlock] using h2
        rcases hat with hat | hat
        · exact hji (h.dis j k bn hj hk h1 hat)
        · have := ((h.rows j hj).lt bn h1).2; omega
      · rw [hgj j hji] at h1
        rw [hgj k hki] at h2
        exact h.dis j k b hj hk h1 h2
  · have t1 := h.tk.grownR hg (fun e => by have := hb _ e; omega) (fun e => by have := hb _ e; omega)
    exact t1.setO (by omega) (by omega) i _
/-- An empty row more. -/
theorem LsI.push (h : LsI w0 w rb tb T rest v vs ls s) (ho : w'.ownsRow w0.heap.size 50 1 v' (ls.length + 1) (vs ++ [.slice none 0 0])) (hg : w.grownBy w' v.ownBlock) : LsI w0 w' rb tb T rest v' (vs ++ [.slice none 0 0]) (ls ++ [[]]) s := by
  have hlen := h.len
  have hrb := h.hrb
  have htb := h.htb
  have hb : ∀ k, v.ownBlock = some k → w0.heap.size ≤ k := fun k hk => (h.own.lt k hk).1
  have hgj : ∀ j, j < ls.length → (vs ++ [Value.slice none 0 0])[j]?.getD undef = vs[j]?.getD undef := fun j hj => by rw [List.getElem?_append_left (by omega)]
  have hgn : ∀ j, ¬ j < ls.length → j < (ls ++ [[]]).length → (vs ++ [Value.slice none 0 0])[j]?.getD undef = .slice none 0 0 := fun j hj hj2 => by
    obtain rfl : j = ls.length := by simp at hj2; omega
    rw [← hlen, List.getElem?_append_right (Nat.le_refl _), Nat.sub_self]; rfl
  refine ⟨by rw [List.length_append]; exact ho, fun j hj => ?_, fun j k b hj hk h1 h2 => ?_, h.tk.grownR hg (fun e => by have := hb _ e; omega) (fun e => by have := hb _ e; omega), kept_g h.g hg hb, kept_env h.env h.env0 hg hb, h.env0, hrb, htb⟩
  · by_cases hjl : j < ls.length
    · rw [hgj j hjl, List.getElem?_append_left hjl]
      exact kept_row (h.rows j hjl) hg (fun k hk e => h.dio hjl hk e)
    · rw [hgn j hjl hj]
      have e : (ls ++ [[]])[j]?.getD [] = [] := by
        obtain rfl : j = ls.length := by simp at hj; omega
        rw [List.getElem?_append_right (Nat.le_refl _), Nat.sub_self]; rfl
      rw [e]
      exact World.ownsRow_nil _ _ _ _
  · by_cases hjl : j < ls.length
    · by_cases hkl : k < ls.length
      · rw [hgj j hjl] at h1
        rw [hgj k hkl] at h2
        exact h.dis j k b hjl hkl h1 h2
      · rw [hgn k hkl hk] at h2; cases h2
    · rw [hgn j hjl hj] at h1; cases h1
end
/-- Slices of the call's own. -/
def LsO (w : World) (base : Nat) (v : Value) (ls : List (List Int)) : Prop :=
  ∃ vs, w.ownsRow base 50 1 v ls.length vs ∧ (∀ i, i < ls.length → w.ownsRow base 3 1 (vs[i]?.getD undef) (ls[i]?.getD []).length ((ls[i]?.getD []).map (Value.int .i64))) ∧ LB 1000000 ls
theorem LsO.kept {w w' : World} {base k : Nat} {v : Value} {ls : List (List Int)} (h : LsO w base v ls) (hg : w.grownBy w' (some k)) (hk : k < base) : LsO w' base v ls := by
  obtain ⟨vs, h1, h2, h3⟩ := h
  refine ⟨vs, kept_row h1 hg (fun j hj e => ?_), fun i hi => kept_row (h2 i hi) hg (fun j hj e => ?_), h3⟩
  · have := (h1.lt j hj).1; simp at e; omega
  · have := ((h2 i hi).lt j hj).1; simp at e; omega
theorem LsO.below {w w' : World} {base : Nat} {v : Value} {ls : List (List Int)} (h : LsO w base v ls) (hB : Below w.heap.size w w') : LsO w' base v ls := by
  obtain ⟨vs, h1, h2, h3⟩ := h
  exact ⟨vs, owns_below h1 hB, fun i hi => owns_below (h2 i hi) hB, h3⟩
theorem LsO.read {w : World} {base : Nat} {v : Value} {ls : List (List Int)} (h : LsO w base v ls) : LsR w v ls := by
  obtain ⟨vs, h1, h2, h3⟩ := h
  obtain ⟨a, cap, e1, e2, e3, e4⟩ := owns_at h1
  refine ⟨a, cap, vs, e1, e2, e3, by have := h3.1; omega, e4, by have := h1.1; omega, fun i hi => owns_ints (h2 i hi) (by have := h3.2 i; omega)⟩
theorem LB.mono {c d : Nat} {ls : List (List Int)} (h : LB c ls) (hd : c ≤ d) : LB d ls := ⟨Nat.le_trans h.1 hd, fun j => Nat.le_trans (h.2 j) hd⟩
theorem wp_app1L {P : Program} (wr : World) {o : Oper} {a : Act} {K : Act → World → Prop} {Q : Exit → Act → World → Prop}
    (s xop : Operand) (t : TypeId) (ho : o.op = .call { callee := .builtin .append, args := #[s, xop], argTypes := #[t, t] })
    (e : TypeId) (ht : P.underlying t = some (.slice e)) (hinfo : (P.info? e).map (fun i => (i.zero, i.size, i.bytes)) = some (some (.int .i64 0), 1, 8))
    (base : Nat) (v : Value) (xs : List Int) (hown : wr.ownsRow base e 1 v xs.length (xs.map (Value.int .i64))) (x : Int) (B : Nat) (hBs : B = wr.heap.size)
    (hs : a.eval s = v) (hx : a.eval xop = .slice (some ⟨B, 0, none⟩) 1 1) (hlen : xs.length ≤ 1000000000000) (hbase : base ≤ wr.heap.size)
    (h : ∀ bn cn w', w'.ownsRow base e 1 (.slice (some ⟨bn, 0, none⟩) (xs ++ [x]).length cn) (xs ++ [x]).length ((xs ++ [x]).map (Value.int .i64)) → wr.grownBy w' v.ownBlock → (v.ownBlock = some bn ∨ wr.heap.size ≤ bn) → bn < w'.heap.size → K (a.put o.dst (.slice (some ⟨bn, 0, none⟩) (xs ++ [x]).length cn)) w') :
    o.wp P a (wr.alloc (.cells #[.int .i64 x] e)) K Q := by
  obtain ⟨i, hi, hz, hsz, hby⟩ := info_parts hinfo
  subst hBs
  refine wp_append_lies _ s xop t ho base e i (.int .i64 0) 1 8 ht hi hz hsz hby rfl (by decide) v xs.length _ hs (hown.alloc _) ⟨wr.heap.size, 0, none⟩ 1 1 [.int .i64 x] hx rfl (cell_one_new _ _ _) (by simp [Value.oneCell']) (by decide) (by unfold maxLen; omega) (by omega) (by simp; omega) (wr.heap.size + 1) (by simp) ?_
  intro bn cn w' hown' hgr hat hlt
  have e1 : (xs ++ [x]).length = xs.length + 1 := by simp
  have := h bn cn w' (by rw [e1]; simpa using hown') ?_ (hat.imp id (fun e => by omega)) hlt
  · rw [e1] at this; exact this
  refine ⟨hgr.os, hgr.tape, hgr.output, by have := hgr.size; simp at this; omega, fun k hk hne => ?_⟩
  rw [hgr.block k (by simp; omega) hne]
  exact Below.heap_alloc _ _ _ hk

end Go.Proofs.YtemmepgfngkgmaaGreatDoor

namespace Go.Proofs.YtemmepgfngkgmaaGreatDoor
open Go.RowKit
set_option linter.unusedVariables false
set_option linter.unusedSimpArgs false

theorem und_lists : Tryz.prog.underlying 38 = some (.slice 50) := by kernel_rfl
theorem info_ints : (Tryz.prog.info? 50).map (fun i => (i.zero, i.size, i.bytes)) = some (some (.slice none 0 0), 1, 24) := by kernel_rfl
def RetLs (w : World) (rb tb : Nat) (T : TypeId) (rest : List Value) (n : Int) (z : List (List Int) × Rs) (e : Ending) (w' : World) : Prop :=
  ∃ v, e = .returned v ∧ LsO w' w.heap.size v z.1 ∧ Tk w' rb tb T rest (finL n z) ∧ w.grownBy w' (some rb)

set_option maxRecDepth 100000 in
set_option maxHeartbeats 4000000 in
theorem n_lists (n half : Int) (hn : 1 ≤ n ∧ n ≤ 12) (hh : 0 ≤ half ∧ half ≤ 1000000) (s : Rs) (rb tb : Nat) (w : World) (hE : EnvB w rb) (hT : Tk w rb tb 104 (rdRest wRibbon 45 111 n) s) :
    Calls Tryz.prog 65 #[.pointer (some ⟨rb, 0, none⟩), .int .i64 half] w (RetLs w rb tb 104 (rdRest wRibbon 45 111 n) n (listsG n half s.ts.length [[]] s)) := by
  obtain ⟨i0, hi0, hz0, hz1, hz2⟩ := info_parts info_ints
  obtain ⟨Z, hZ⟩ : ∃ Z, Z = listsG n half s.ts.length [[]] s := ⟨_, rfl⟩
  rw [← hZ]
  have HZ := hid hZ.symm
  have hok := hid hT.1
  have wh : IntKind.i64.wrap (half - 1) = half - 1 := IntWalk.i64_in _ (by omega)
  have h0 : Hid (LsI w (w.alloc (.cells #[.slice none 0 0] 50)) rb tb 104 (rdRest wRibbon 45 111 n) (.slice (some ⟨w.heap.size, 0, none⟩) 1 1) [.slice none 0 0] [[]] s) := by
    obtain ⟨_, _, htb, _⟩ := hT.cells
    have hB : Below w.heap.size w (w.alloc (.cells #[.slice none 0 0] 50)) := (Below.refl _ _).alloc (Nat.le_refl _) _
    refine ⟨owns_new1 _ _ _, fun i hi => ?_, fun i j k hi hj h => ?_, hT.below hB, grown_of hB _, hE.below hB, hE.1, hT.lt, htb⟩
    · obtain rfl : i = 0 := by simpa using hi
      exact World.ownsRow_nil _ _ _ _
    · obtain rfl : i = 0 := by simpa using hi
      cases h
  have HN := hid hn
  clear hZ hE hT hn
  go_enter Tryz.func65, Tryz.ntmps65
  go_wp2_with fail
  go_loopg [5] (s.ts.length + 1) (fun k v wr => ∃ vs ls s' c, Hid (LsI w wr rb tb 104 (rdRest wRibbon 45 111 n) v vs ls s') ∧ 0 < ls.length ∧ Hid (LB c ls) ∧ c + s'.ts.length ≤ 5001 ∧ Hid (s'.e = 0 → s'.ts.length < k ∧ c + s'.ts.length ≤ 5000) ∧ Hid (listsG n half s'.ts.length ls s' = Z))
  case atStart => exact ⟨_, _, s, 1, h0, by decide, ⟨by decide, fun j => by cases j <;> simp⟩, by have := hok.out.2.1; omega, fun _ => ⟨by omega, by have := hok.out.2.1; omega⟩, HZ⟩
  case round =>
    clear h0 hok HZ
    obtain ⟨vs, ls, s', c, HI, hls, HLB, hsz, HM, HZ⟩ := hrel
    obtain ⟨W1, rfl⟩ : ∃ W : World, W = wr := ⟨_, rfl⟩
    have HLS := hid hls
    have HSZ := hid hsz
    clear hsz hls
    go_wp2_with fail
    refine (t_more W1 rb tb _ _ s' HI.out.tk).mono ?_
    rintro e w1 ⟨rfl, hB1⟩
    have HI1 := hid (HI.out.below hB1)
    clear hB1 HI
    obtain ⟨g, cap, hgc⟩ : ∃ g cap, Hid (u5 = .slice (some ⟨g, 0, none⟩) ls.length cap) := by
      have hls := HLS.out
      rcases HI1.out.own.2 with ⟨_, h2⟩ | ⟨g, cap, cur, h2, _⟩
      · omega
      · exact ⟨g, cap, h2⟩
    cases hmr : s'.more with
    | false =>
      have HZ2 : Hid ((ls, s') = Z) := by show _ = _; rw [← HZ.out, listsG_end hmr]
      obtain rfl := hgc.out
      have c1 := HI1.out.tk.rest.1
      have c6 := HI1.out.tk.rest.2.2.2.2
      have hrl := HI1.out.tk.lt
      clear HZ hmr hgc
      by_cases he : s'.e = 0
      · rw [he] at c1
        by_cases hln : (ls.length : Int) = n
        · have hln2 : ((ls.length : Int) != n) = false := by simpa using hln
          have HF : Hid (finL n Z = s') := by show _ = _; rw [← HZ2.out]; unfold finL; rw [if_neg (fun h => h.2 hln)]
          dsimp only
          go_wp2_with fail
          go_ret
          refine ⟨_, rfl, ?_, ?_, HI1.out.g⟩
          · rw [← HZ2.out]; exact ⟨vs, HI1.out.own, HI1.out.rows, HLB.out.mono (by have := HSZ.out; omega)⟩
          · rw [HF.out]; exact HI1.out.tk
        · have hln2 : ((ls.length : Int) != n) = true := by simpa using hln
          have HF : Hid (finL n Z = s'.fail 8 s'.now.pos) := by show _ = _; rw [← HZ2.out]; unfold finL; rw [if_pos ⟨he, hln⟩]
          dsimp only
          go_upto_region 11 with fail
          have HI2 := hid (HI1.out.below (Below.drew (Below.refl _ _)))
          let S : World → Prop := fun W' => Hid (Below w1.heap.size w1 W')
          (refine wp_region_text 8 [0,1,2,3,4,5,6,7] S (by kernel_rfl) (by kernel_rfl) (by intro _ _ d _ _ h; cases d <;> exact h) ?hS ?_; rotate_left; simp only [List.map_cons, List.map_nil, List.getD_cons_zero, List.getD_cons_succ, List.drop_succ_cons, List.drop_zero])
          case hS => exact Below.drew (Below.refl _ _)
          (repeat ((refine' wpSeq_take rfl _ (by rfl) ?_ ?_; rotate_left; focus (intro w' hS; (try dsimp only at hS); have s0 := hS; go_simp; (first | done | with_reducible rfl)); (try simp only [Act.put, List.setIfInBounds_toArray, List.set_cons_zero, List.set_cons_succ])); (try simp only [Act.put, List.setIfInBounds_toArray, List.set_cons_zero, List.set_cons_succ])))
          (refine wpSeq_call rfl (by rfl) (fun K hK => ?_); go_simp; refine ((t_now _ rb tb _ _ s' HI2.out.tk)).mono ?_; rintro e w3 ⟨rfl, hB3⟩; refine hK _ _ (((Below.drew (Below.refl w1.heap.size w1)).trans hB3)) ?_; clear hK K; (try simp only [Act.put, List.setIfInBounds_toArray, List.set_cons_zero, List.set_cons_succ]))
          have HI3 := hid (HI2.out.below hB3)
          clear hB3 HI2
          have q := tok_pos
          (repeat ((refine' wpSeq_take rfl _ (by rfl) ?_ ?_; rotate_left; focus (intro w' hS; (try dsimp only at hS); have s0 := hS; go_simp; (first | done | with_reducible rfl)); (try simp only [Act.put, List.setIfInBounds_toArray, List.set_cons_zero, List.set_cons_succ])); (try simp only [Act.put, List.setIfInBounds_toArray, List.set_cons_zero, List.set_cons_succ])))
          refine wpSeq_nil ?_
          clear S
          go_wp2_with fail
          refine (t_fail _ rb tb _ _ s' HI3.out.tk 8 s'.now.pos).mono ?_
          rintro e w4 ⟨rfl, ht4, hg4⟩
          have HI4 := hid (HI3.out.step ht4 hg4)
          clear ht4 hg4 HI3
          have HI3 := HI4
          dsimp only
          go_wp2_with fail
          go_ret
          refine ⟨_, rfl, ?_, ?_, HI3.out.g⟩
          · rw [← HZ2.out]; exact ⟨vs, HI3.out.own, HI3.out.rows, HLB.out.mono (by have := HSZ.out; omega)⟩
          · rw [HF.out]; exact HI3.out.tk
      · have he1 : (s'.e == 0) = false := by simpa using he
        have HF : Hid (finL n Z = s') := by show _ = _; rw [← HZ2.out]; unfold finL; rw [if_neg (fun h => he h.1)]
        dsimp only
        go_wp2_with fail
        go_ret
        refine ⟨_, rfl, ?_, ?_, HI1.out.g⟩
        · rw [← HZ2.out]; exact ⟨vs, HI1.out.own, HI1.out.rows, HLB.out.mono (by have := HSZ.out; omega)⟩
        · rw [HF.out]; exact HI1.out.tk
    | true =>
      have hme := more_e hmr
      have HM0 := hid (HM.out hme.1)
      have HE0 := hid hme.1
      have hlz : s'.ts.length = (s'.ts.length - 1) + 1 := by have := HI1.out.tk.1.1; omega
      have hz := HZ.out
      rw [hlz] at hz
      have HZ := hid hz
      have HMR := hid hmr
      clear hme hlz hz hmr HM
      dsimp only
      go_wp2_with fail
      refine (t_is w1 rb tb _ _ s' HI1.out.tk [47]).mono ?_
      rintro e w2 ⟨rfl, hB2⟩
      have HI2 := hid (HI1.out.below hB2)
      clear hB2 HI1
      cases his : s'.is [47] with
      | false =>
        have hz := HZ.out
        rw [listsG_num HMR.out his] at hz
        have HZ2 := hid hz
        have HNT := hid (num_ts HI2.out.tk.1 0 (half - 1))
        obtain ⟨j, hj⟩ : ∃ j, ls.length = j + 1 := ⟨ls.length - 1, by have := HLS.out; omega⟩
        have hlI : IntKind.i64.wrap ((ls.length : Int) - 1) = (j : Int) := by rw [IntWalk.i64_in _ (by have := HLB.out.1; have := HSZ.out; omega)]; omega
        have hjI : (j : Int) < (ls.length : Int) := by omega
        have hj0 : (0 : Int) ≤ (j : Int) := by omega
        have hjN : j < ls.length := by omega
        have HJ := hid hj
        obtain rfl := hgc.out
        have hgl := (HI2.out.own.lt g rfl).2
        have hgb := (HI2.out.own.lt g rfl).1
        have cj : w2.cell? ⟨g, j, none⟩ = some (vs[j]?.getD undef) := by
          rw [HI2.out.own.cellAt j (by omega)]
          rw [List.getElem?_eq_getElem (by have := HI2.out.len; omega)]; rfl
        have HCJ := hid cj
        have hgrb : g ≠ rb := by have := HI2.out.hrb; omega
        clear hz HZ his hgc hj cj
        dsimp only
        go_upto_region 5 with fail
        have HI3 := hid (HI2.out.below (Below.drew (Below.refl _ _)))
        let S : World → Prop := fun W' => W'.cell? ⟨g, j, none⟩ = some (vs[j]?.getD undef)
        (refine wp_region_text 15 [0,1,2,3,4,5,6,7,8,9,10,11,12,13,14] S (by kernel_rfl) (by kernel_rfl) (by intro _ _ d _ _ h; cases d <;> exact h) ?hS ?_; rotate_left; simp only [List.map_cons, List.map_nil, List.getD_cons_zero, List.getD_cons_succ, List.drop_succ_cons, List.drop_zero])
        case hS => exact HCJ.out
        (repeat ((refine' wpSeq_take rfl _ (by rfl) ?_ ?_; rotate_left; focus (intro w' hS; (try dsimp only at hS); have s0 : w'.cell? ⟨g, j, none⟩ = some (vs[j]?.getD undef) := hS; go_simp; (first | done | with_reducible rfl)); (try simp only [Act.put, List.setIfInBounds_toArray, List.set_cons_zero, List.set_cons_succ])); (try simp only [Act.put, List.setIfInBounds_toArray, List.set_cons_zero, List.set_cons_succ])))
        (refine wpSeq_call rfl (by rfl) (fun K hK => ?_); go_simp; refine ((t_number _ rb tb _ _ s' HI3.out.env.1 HI3.out.tk 0 (half - 1))).mono ?_; rintro e w4 ⟨rfl, ht4, hg4⟩; refine hK _ _ ((show w4.cell? _ = _ from ((World.cell?_of_block (hg4.block g hgl (by simpa using hgrb))).trans HCJ.out))) ?_; clear hK K; (try simp only [Act.put, List.setIfInBounds_toArray, List.set_cons_zero, List.set_cons_succ]))
        have HI4 := hid (HI3.out.step ht4 hg4)
        have HC4 : Hid (w4.cell? ⟨g, j, none⟩ = some (vs[j]?.getD undef)) := (World.cell?_of_block (hg4.block g hgl (by simpa using hgrb))).trans HCJ.out
        clear ht4 hg4 HI3 HI2 HCJ
        generalize hp : s'.num 0 (half - 1) = p at *
        obtain ⟨x, s2⟩ := p
        clear hp
        have hgl4 := (HI4.out.own.lt g rfl).2
        refine wpSeq_call rfl (by rfl) (fun K hK => ?_)
        go_simp
        refine hK _ _ (show (w4.alloc _).cell? _ = _ from ((World.cell?_alloc_old _ _ _ (by simp; omega)).trans HC4.out)) ?_
        clear hK K
        (try simp only [Act.put, List.setIfInBounds_toArray, List.set_cons_zero, List.set_cons_succ])
        (repeat ((refine' wpSeq_take rfl _ (by rfl) ?_ ?_; rotate_left; focus (intro w' hS; (try dsimp only at hS); have s0 : w'.cell? ⟨g, j, none⟩ = some (vs[j]?.getD undef) := hS; go_simp; (first | done | with_reducible rfl)); (try simp only [Act.put, List.setIfInBounds_toArray, List.set_cons_zero, List.set_cons_succ])); (try simp only [Act.put, List.setIfInBounds_toArray, List.set_cons_zero, List.set_cons_succ])))
        refine wpSeq_call rfl (by rfl) (fun K hK => ?_)
        refine wp_app1L w4 _ _ 50 rfl 3 und_ints info_int w.heap.size _ (ls[j]?.getD []) (HI4.out.rows j hjN) x w4.heap.size rfl rfl rfl (by have := HLB.out.2 j; have := HSZ.out; omega) HI4.out.g.size ?_
        intro bn cn w9 ho9 hg9 hat9 hlt9
        have HA := hid (HI4.out.app hjN ho9 hg9 hat9)
        have HC9 : Hid (w9.cell? ⟨g, j, none⟩ = some (vs[j]?.getD undef)) := (World.cell?_of_block (hg9.block g hgl4 (fun e => HI4.out.dio hjN e.symm rfl))).trans HC4.out
        have hgl9 : g < w9.heap.size := Nat.lt_of_lt_of_le hgl4 hg9.size
        have HF9 : Hid (w9.frozen? ⟨g, j, none⟩ = false) := by
          have ho1 := kept_row HI4.out.own hg9 (fun k hk e => HI4.out.dio hjN e hk)
          exact own_frozen ho1 rfl j
        generalize hm : (ls[j]?.getD [] ++ [x]).length = m at *
        clear hm
        refine hK _ _ HC9.out ?_
        clear hK K
        (try simp only [Act.put, List.setIfInBounds_toArray, List.set_cons_zero, List.set_cons_succ])
        (repeat ((refine' wpSeq_take rfl _ (by rfl) ?_ ?_; rotate_left; focus (intro w' hS; (try dsimp only at hS); have s0 : w'.cell? ⟨g, j, none⟩ = some (vs[j]?.getD undef) := hS; go_simp; (first | done | with_reducible rfl)); (try simp only [Act.put, List.setIfInBounds_toArray, List.set_cons_zero, List.set_cons_succ])); (try simp only [Act.put, List.setIfInBounds_toArray, List.set_cons_zero, List.set_cons_succ])))
        refine wpSeq_nil ?_
        have c9 := HC9.out
        have f9 := HF9.out
        have HX := hid (HLB.out.put j x)
        have HPL := hid (putLast_set ls j HJ.out x)
        clear S ho9 hg9 hat9 hlt9 HI4 HC4 hgl4 hgl HC9 HF9 hlI
        have HZ2 : Hid (listsG n half (s'.ts.length - 1) (putLast ls x) s2 = Z) := HZ2
        have HNT : Hid (TsOk s2.ts ∧ s2.ts.length ≤ s'.ts.length ∧ (s2.e = 0 → s2.ts.length < s'.ts.length)) := HNT
        go_wp2_with fail
        go_roundg (gk - 1)
        case measure => have := HM0.out.1; omega
        case rel =>
          refine ⟨_, _, s2, c + 1, HA, by rw [List.length_set]; exact HLS.out, HX, by have := HNT.out.2.1; have := HM0.out.2; omega, fun h => by have := HNT.out.2.2 h; have := HM0.out; omega, ?_⟩
          show _ = _
          rw [← HZ2.out, ← HPL.out]
          by_cases he : s2.e = 0
          · exact listsG_fuel n half _ _ _ _ HNT.out.1 (Nat.le_refl _) (by have := HNT.out.2.2 he; omega)
          · rw [listsG_end (not_more he), listsG_end (not_more he)]
      | true =>
        have hz := HZ.out
        rw [listsG_sep HMR.out his] at hz
        have HZ2 := hid hz
        have hik := Rs.is_kind his
        have HK := hid (kind_len HI2.out.tk.1 hik.1)
        have HK3 := hid hik.1
        obtain rfl := hgc.out
        have c6 := HI2.out.tk.rest.2.2.2.2
        have hrl := HI2.out.tk.lt
        clear hz HZ his hgc hik
        by_cases hln : (ls.length : Int) = n
        · have HSF : Hid (shapeF n ls s' = s'.fail 8 s'.now.pos) := by show _ = _; unfold shapeF; rw [if_pos hln]
          have hln2 : ((ls.length : Int) == n) = true := by simpa using hln
          have HI1 := HI2
          clear HI2 hln
          dsimp only
          go_upto_region 7 with fail
          have HI2 := hid (HI1.out.below (Below.drew (Below.refl _ _)))
          let S : World → Prop := fun W' => Hid (Below w2.heap.size w2 W')
          (refine wp_region_text 8 [0,1,2,3,4,5,6,7] S (by kernel_rfl) (by kernel_rfl) (by intro _ _ d _ _ h; cases d <;> exact h) ?hS ?_; rotate_left; simp only [List.map_cons, List.map_nil, List.getD_cons_zero, List.getD_cons_succ, List.drop_succ_cons, List.drop_zero])
          case hS => exact Below.drew (Below.refl _ _)
          (repeat ((refine' wpSeq_take rfl _ (by rfl) ?_ ?_; rotate_left; focus (intro w' hS; (try dsimp only at hS); have s0 := hS; go_simp; (first | done | with_reducible rfl)); (try simp only [Act.put, List.setIfInBounds_toArray, List.set_cons_zero, List.set_cons_succ])); (try simp only [Act.put, List.setIfInBounds_toArray, List.set_cons_zero, List.set_cons_succ])))
          (refine wpSeq_call rfl (by rfl) (fun K hK => ?_); go_simp; refine ((t_now _ rb tb _ _ s' HI2.out.tk)).mono ?_; rintro e w3 ⟨rfl, hB3⟩; refine hK _ _ (((Below.drew (Below.refl w2.heap.size w2)).trans hB3)) ?_; clear hK K; (try simp only [Act.put, List.setIfInBounds_toArray, List.set_cons_zero, List.set_cons_succ]))
          have HI3 := hid (HI2.out.below hB3)
          clear hB3 HI2
          have q := tok_pos
          (repeat ((refine' wpSeq_take rfl _ (by rfl) ?_ ?_; rotate_left; focus (intro w' hS; (try dsimp only at hS); have s0 := hS; go_simp; (first | done | with_reducible rfl)); (try simp only [Act.put, List.setIfInBounds_toArray, List.set_cons_zero, List.set_cons_succ])); (try simp only [Act.put, List.setIfInBounds_toArray, List.set_cons_zero, List.set_cons_succ])))
          refine wpSeq_nil ?_
          clear S
          go_wp2_with fail
          refine (t_fail _ rb tb _ _ s' HI3.out.tk 8 s'.now.pos).mono ?_
          rintro e w4 ⟨rfl, ht4, hg4⟩
          have HI4 := hid (HI3.out.step ht4 hg4)
          clear ht4 hg4 HI3
          have HI3 := HI4
          dsimp only
          have HI4 := hid (show LsI w w4 rb tb 104 (rdRest wRibbon 45 111 n) (.slice (some ⟨g, 0, none⟩) ls.length cap) vs ls (shapeF n ls s') by rw [HSF.out]; exact HI3.out)
          clear HI3
          have HTS := hid (shapeF_ts n ls s')
          have HNW : Hid ((shapeF n ls s').now.kind ≠ 3) := by
            show (shapeF n ls s').now.kind ≠ 3
            unfold Rs.now
            rw [HTS.out]
            exact HK3.out
          generalize shapeF n ls s' = s3 at *
          go_wp2_with fail
          refine (t_skip _ rb tb _ _ s3 HI4.out.tk HNW.out).mono ?_
          rintro e w5 ⟨rfl, ht5, hg5⟩
          have HI5 := hid (HI4.out.step ht5 hg5)
          have HK5 : Hid (TsOk s3.skip.ts ∧ s3.skip.ts.length + 1 = s'.ts.length) := by
            show TsOk (s3.ts.drop 1) ∧ (s3.ts.drop 1).length + 1 = _
            rw [HTS.out]
            exact HK.out
          clear ht5 hg5 HI4 HNW c6 hrl
          generalize s3.skip = s4 at *
          have hlb : ls.length ≤ 5001 := by have := HLB.out.1; have := HSZ.out; omega
          have hbs := HI5.out.g.size
          dsimp only
          go_wp2_with (at_builtin; go_must (refine wpList_append_own _ rfl _ _ 38 rfl w.heap.size 50 i0 (.slice none 0 0) 1 24 und_lists hi0 hz0 hz1 hz2 rfl (by decide) _ ls.length _ rfl (HI5.out.own.alloc _) ⟨w5.heap.size, 0, none⟩ 1 1 [.slice none 0 0] rfl rfl (cell_one_new _ _ _) (by simp [Value.oneCell']) (by unfold maxLen; omega) (by omega) (by simp; omega) ?_; intro v' w9 hown9 hgr9 _; have HA := hid (HI5.out.push hown9 ((Below.toGrown ((Below.refl _ w5).alloc (Nat.le_refl _) (.cells #[.slice none 0 0] 50)) _).trans hgr9)); clear hown9 hgr9))
          go_roundg (gk - 1)
          case measure => have := HM0.out.1; omega
          case rel =>
            refine ⟨_, _, s4, c + 1, HA, by simp, HLB.out.push, by have := HK5.out.2; have := HM0.out.2; omega, fun h => by have := HK5.out.2; have := HM0.out; omega, ?_⟩
            show _ = _
            rw [← HZ2.out]
            exact listsG_fuel n half _ _ _ _ HK5.out.1 (Nat.le_refl _) (by have := HK5.out.2; omega)
        · have HSF : Hid (shapeF n ls s' = s') := by show _ = _; unfold shapeF; rw [if_neg hln]
          have hln2 : ((ls.length : Int) == n) = false := by simpa using hln
          obtain ⟨w4, hw4⟩ : ∃ W : World, W = w2 := ⟨_, rfl⟩
          rw [← hw4]
          rw [← hw4] at c6 hrl
          have HI4 := hid (show LsI w w4 rb tb 104 (rdRest wRibbon 45 111 n) (.slice (some ⟨g, 0, none⟩) ls.length cap) vs ls (shapeF n ls s') by rw [HSF.out, hw4]; exact HI2.out)
          clear HI2 hln hw4
          dsimp only
          have HTS := hid (shapeF_ts n ls s')
          have HNW : Hid ((shapeF n ls s').now.kind ≠ 3) := by
            show (shapeF n ls s').now.kind ≠ 3
            unfold Rs.now
            rw [HTS.out]
            exact HK3.out
          generalize shapeF n ls s' = s3 at *
          go_wp2_with fail
          refine (t_skip _ rb tb _ _ s3 HI4.out.tk HNW.out).mono ?_
          rintro e w5 ⟨rfl, ht5, hg5⟩
          have HI5 := hid (HI4.out.step ht5 hg5)
          have HK5 : Hid (TsOk s3.skip.ts ∧ s3.skip.ts.length + 1 = s'.ts.length) := by
            show TsOk (s3.ts.drop 1) ∧ (s3.ts.drop 1).length + 1 = _
            rw [HTS.out]
            exact HK.out
          clear ht5 hg5 HI4 HNW c6 hrl
          generalize s3.skip = s4 at *
          have hlb : ls.length ≤ 5001 := by have := HLB.out.1; have := HSZ.out; omega
          have hbs := HI5.out.g.size
          dsimp only
          go_wp2_with (at_builtin; go_must (refine wpList_append_own _ rfl _ _ 38 rfl w.heap.size 50 i0 (.slice none 0 0) 1 24 und_lists hi0 hz0 hz1 hz2 rfl (by decide) _ ls.length _ rfl (HI5.out.own.alloc _) ⟨w5.heap.size, 0, none⟩ 1 1 [.slice none 0 0] rfl rfl (cell_one_new _ _ _) (by simp [Value.oneCell']) (by unfold maxLen; omega) (by omega) (by simp; omega) ?_; intro v' w9 hown9 hgr9 _; have HA := hid (HI5.out.push hown9 ((Below.toGrown ((Below.refl _ w5).alloc (Nat.le_refl _) (.cells #[.slice none 0 0] 50)) _).trans hgr9)); clear hown9 hgr9))
          go_roundg (gk - 1)
          case measure => have := HM0.out.1; omega
          case rel =>
            refine ⟨_, _, s4, c + 1, HA, by simp, HLB.out.push, by have := HK5.out.2; have := HM0.out.2; omega, fun h => by have := HK5.out.2; have := HM0.out; omega, ?_⟩
            show _ = _
            rw [← HZ2.out]
            exact listsG_fuel n half _ _ _ _ HK5.out.1 (Nat.le_refl _) (by have := HK5.out.2; omega)

end Go.Proofs.YtemmepgfngkgmaaGreatDoor
