/-
  Edges one by one: plain. The bag of ends; what a range over it has met; the text of single edges, read.
-/
import Derived.Test.YtemmepgfngkgmaaGreatDoorNo2
import Derived.Test.YtemmepgfngkgmaaGreatDoorN60
namespace Go.Proofs.YtemmepgfngkgmaaGreatDoor
open Go.RowKit Go.Maps
set_option linter.unusedVariables false
set_option linter.unusedSimpArgs false

def bagF (M : Int → Int → Int) (ps : List (Int × Int)) : Int → Int → Int := ps.foldl (fun M p => addM M (min p.1 p.2) (max p.1 p.2) 1) M
def bagM (ps : List (Int × Int)) : Int → Int → Int := bagF (fun _ _ => 0) ps
theorem bagF_bd : ∀ (ps : List (Int × Int)) (M : Int → Int → Int) (c : Int), (∀ x y, 0 ≤ M x y ∧ M x y ≤ c) → ∀ x y, 0 ≤ bagF M ps x y ∧ bagF M ps x y ≤ c + ps.length
  | [], M, c, h => fun x y => by have := h x y; show 0 ≤ M x y ∧ _; simp; exact this
  | p :: ps, M, c, h => fun x y => by
    have h1 : ∀ x y, 0 ≤ addM M (min p.1 p.2) (max p.1 p.2) 1 x y ∧ addM M (min p.1 p.2) (max p.1 p.2) 1 x y ≤ c + 1 := fun x y => by
      unfold addM
      have h1 := h (min p.1 p.2) (max p.1 p.2)
      have h2 := h x y
      split <;> omega
    have := bagF_bd ps _ (c + 1) h1 x y
    show 0 ≤ bagF (addM M (min p.1 p.2) (max p.1 p.2) 1) ps x y ∧ _
    rw [List.length_cons]
    show _ ∧ bagF (addM M (min p.1 p.2) (max p.1 p.2) 1) ps x y ≤ _
    omega
theorem bagM_bd (ps : List (Int × Int)) (x y : Int) : 0 ≤ bagM ps x y ∧ bagM ps x y ≤ ps.length := by
  have := bagF_bd ps (fun _ _ => 0) 0 (fun _ _ => ⟨by decide, by decide⟩) x y
  unfold bagM
  omega
def InP (n : Int) (p : Int × Int) : Prop := (0 ≤ p.1 ∧ p.1 < n) ∧ (0 ≤ p.2 ∧ p.2 < n)
theorem bagF_rg {n : Int} : ∀ (ps : List (Int × Int)) (M : Int → Int → Int), (∀ p ∈ ps, InP n p) → (∀ x y, M x y ≠ 0 → 0 ≤ x ∧ x < n ∧ 0 ≤ y ∧ y < n) → ∀ x y, bagF M ps x y ≠ 0 → 0 ≤ x ∧ x < n ∧ 0 ≤ y ∧ y < n
  | [], M, _, h => h
  | p :: ps, M, hp, h => bagF_rg ps _ (fun q hq => hp q (by simp [hq])) (fun x y hxy => by
      obtain ⟨⟨h1, h2⟩, h3, h4⟩ := hp p (by simp)
      have hxy : addM M (min p.1 p.2) (max p.1 p.2) 1 x y ≠ 0 := hxy
      unfold addM at hxy
      by_cases e : x = min p.1 p.2 ∧ y = max p.1 p.2
      · obtain ⟨rfl, rfl⟩ := e
        omega
      · rw [if_neg e] at hxy
        exact h x y hxy)
theorem bagM_rg {n : Int} {ps : List (Int × Int)} (hp : ∀ p ∈ ps, InP n p) : ∀ x y, bagM ps x y ≠ 0 → 0 ≤ x ∧ x < n ∧ 0 ≤ y ∧ y < n := bagF_rg ps _ hp (fun x y h => absurd rfl h)
theorem bagM_take (ps : List (Int × Int)) (k : Nat) (hk : k < ps.length) : bagM (ps.take (k + 1)) = addM (bagM (ps.take k)) (min (ps[k]?.getD (0, 0)).1 (ps[k]?.getD (0, 0)).2) (max (ps[k]?.getD (0, 0)).1 (ps[k]?.getD (0, 0)).2) 1 := by
  have e : ps.take (k + 1) = ps.take k ++ [ps[k]?.getD (0, 0)] := by
    rw [List.take_add_one, List.getElem?_eq_getElem hk]
    rfl
  rw [e]
  unfold bagM bagF
  rw [List.foldl_append]
  rfl

/-- What a range over the bag has met. -/
structure Vis (M : Int → Int → Int) (left : Lit → Bool) (acc : List E) : Prop where
  el : ∀ x ∈ acc, InR x.a x.b ∧ x.m = M x.a x.b ∧ M x.a x.b ≠ 0 ∧ left (keyL x.a x.b) = false
  nd : acc.Pairwise fun x y => ¬ (x.a = y.a ∧ x.b = y.b)
  all : ∀ a b, InR a b → M a b ≠ 0 → left (keyL a b) = false → (⟨a, b, M a b⟩ : E) ∈ acc
theorem Vis.start {D : DataW Unit} {M : Int → Int → Int} (hD : BagD D M) : Vis M (Maps.has D) [] :=
  ⟨(fun x hx => by cases hx), List.Pairwise.nil, (fun a b hr hM hl => by rw [(hD.has (keyL a b)).2 ⟨a, b, hr, rfl, hM⟩] at hl; cases hl)⟩
theorem Vis.step {M : Int → Int → Int} {left : Lit → Bool} {acc : List E} (h : Vis M left acc) {a b : Int} (hr : InR a b) (hl : left (keyL a b) = true) (hM : M a b ≠ 0) :
    Vis M (fun z => left z && !z.sameKey (keyL a b)) (acc ++ [⟨a, b, M a b⟩]) := by
  have hk := keyL_key hr
  refine ⟨fun x hx => ?_, ?_, fun c d hcd hM2 hl2 => ?_⟩
  · rcases List.mem_append.1 hx with hx | hx
    · obtain ⟨h1, h2, h3, h4⟩ := h.el x hx
      exact ⟨h1, h2, h3, by rw [h4]; rfl⟩
    · rw [List.mem_singleton.1 hx]
      refine ⟨hr, rfl, hM, ?_⟩
      dsimp only
      rw [WideAt.sameKey_self hk]
      simp
  · refine List.pairwise_append.2 ⟨h.nd, List.pairwise_singleton _ _, fun x hx y hy => ?_⟩
    rw [List.mem_singleton.1 hy]
    rintro ⟨rfl, rfl⟩
    have := (h.el x hx).2.2.2
    rw [hl] at this
    cases this
  · by_cases e : c = a ∧ d = b
    · obtain ⟨rfl, rfl⟩ := e
      exact List.mem_append.2 (.inr (by simp))
    · refine List.mem_append.2 (.inl (h.all c d hcd hM2 ?_))
      have hne : keyL c d ≠ keyL a b := fun hh => e (keyL_inj hcd hr hh)
      rw [sameKey_ne hne] at hl2
      simpa using hl2
theorem Vis.end {M : Int → Int → Int} {left : Lit → Bool} {acc es' : List E} {n : Int} (h : Vis M left acc) (hl : ∀ kl, left kl = false) (hM : ∀ x y, M x y ≠ 0 → 0 ≤ x ∧ x < n ∧ 0 ≤ y ∧ y < n) (hn : n ≤ 12)
    (hp : es'.Perm acc) (hs : es'.Pairwise fun x y => ltE y x.a x.b = false) : es' = esOfM M n.toNat := by
  have hnd : es'.Pairwise fun x y => ¬ (x.a = y.a ∧ x.b = y.b) := (hp.symm.pairwise_iff (fun {x y} (h : ¬ (x.a = y.a ∧ x.b = y.b)) hh => h ⟨hh.1.symm, hh.2.symm⟩)).1 h.nd
  refine sorted_ext ((hs.and hnd).imp (fun {x y} hh => ?_)) (esOf_sorted M _) (fun x => ⟨fun hx => ?_, fun hx => ?_⟩)
  · obtain ⟨h1, h2⟩ := hh
    unfold ltE at h1 ⊢
    simp at h1 ⊢
    omega
  · obtain ⟨h1, h2, h3, _⟩ := h.el x (hp.mem_iff.1 hx)
    have h4 := hM _ _ h3
    have ea : ((x.a.toNat : Nat) : Int) = x.a := by omega
    have eb : ((x.b.toNat : Nat) : Int) = x.b := by omega
    refine mem_esOf.2 ⟨x.a.toNat, x.b.toNat, by omega, by omega, ?_, ?_⟩
    · rw [ea, eb]; exact h3
    · rw [ea, eb, ← h2]
  · obtain ⟨a, b, ha, hb, h3, rfl⟩ := mem_esOf.1 hx
    exact hp.mem_iff.2 (h.all a b ⟨⟨by omega, by omega⟩, ⟨by omega, by omega⟩⟩ h3 (hl _))

/-! ## The text of single edges -/
def endE (p : Int × Int) : E := ⟨min p.1 p.2, max p.1 p.2, 1⟩
theorem endE_in {n : Int} {p : Int × Int} (h : InP n p) : InE n (endE p) := by
  obtain ⟨⟨h1, h2⟩, h3, h4⟩ := h
  unfold InE endE
  dsimp only
  omega
theorem tabG_endO (sign : UInt8) (either : Bool) (n : Int) (f : Nat) (M : Int → Int → Int) (s : Rs) (h : s.more = false) : tabG sign either n f M s = (M, s) := by
  cases f with
  | zero => rfl
  | succ f => unfold tabG; rw [if_pos h]
theorem tabG_stepO (sign : UInt8) (either : Bool) (n : Int) (f : Nat) (M : Int → Int → Int) (s : Rs) (h : s.more = true) (x : Ln) (s2 : Rs) (hx : s.line sign n = (x, s2)) :
    tabG sign either n (f + 1) M s = if s2.e ≠ 0 then (M, s2) else if 50 < M (lo either x) (hi either x) + x.m then (M, s2.fail 5 x.pl) else tabG sign either n f (addM M (lo either x) (hi either x) x.m) s2 := by
  conv => lhs; unfold tabG
  rw [if_neg (by rw [h]; decide)]
  dsimp only
  rw [hx]
theorem Rd.tabG {n : Int} (hn : n ≤ 1000000) : ∀ (ps : List (Int × Int)) (M : Int → Int → Int) (s : Rs) (f : Nat) (c : Int), Rd s ((ps.map endE).flatMap (lnT 45) ++ [tE]) → (∀ p ∈ ps, InP n p) → (∀ x y, 0 ≤ M x y ∧ M x y ≤ c) → c + ps.length ≤ 50 → ps.length ≤ f →
    ∃ s', tabG 45 true n f M s = (bagF M ps, s') ∧ Rd s' [tE]
  | [], M, s, f, c, h, _, _, _, _ => by
    have h : Rd s [tE] := h
    exact ⟨s, tabG_endO _ _ _ _ _ _ (by rw [h.more]; rfl), h⟩
  | p :: ps, M, s, 0, c, _, _, _, _, hf => by simp at hf
  | p :: ps, M, s, f + 1, c, h, hin, hb, hc, hf => by
    have hx := endE_in (hin p (by simp))
    have hmr : s.more = true := by
      have h2 : Rd s (tN (endE p).a :: (tS 45 :: tN (endE p).b :: timesK (endE p).m ++ ((ps.map endE).flatMap (lnT 45) ++ [tE]))) := by
        simpa [lnT, List.append_assoc] using h
      rw [h2.more]; rfl
    obtain ⟨t, r, htr, hts⟩ : ∃ t r, (ps.map endE).flatMap (lnT 45) ++ [tE] = t :: r ∧ t.text ≠ [42] := by
      cases ps with
      | nil => exact ⟨tE, [], rfl, by decide⟩
      | cons q ps => exact ⟨tN (endE q).a, _, rfl, itoa_star (endE_in (hin q (by simp))).1⟩
    have h3 : Rd s (lnT 45 (endE p) ++ t :: r) := by
      rw [← htr, ← List.append_assoc]
      simpa using h
    obtain ⟨pl, s2, e2, h4⟩ := h3.line hn hx hts
    rw [← htr] at h4
    have hlo : lo true ⟨(endE p).a, (endE p).b, (endE p).m, pl⟩ = min p.1 p.2 := by show min (min p.1 p.2) (max p.1 p.2) = _; omega
    have hhi : Go.Proofs.YtemmepgfngkgmaaGreatDoor.hi true ⟨(endE p).a, (endE p).b, (endE p).m, pl⟩ = max p.1 p.2 := by show max (min p.1 p.2) (max p.1 p.2) = _; omega
    have hb1 : ∀ x y, 0 ≤ addM M (min p.1 p.2) (max p.1 p.2) 1 x y ∧ addM M (min p.1 p.2) (max p.1 p.2) 1 x y ≤ c + 1 := fun x y => by
      unfold addM
      have h1 := hb (min p.1 p.2) (max p.1 p.2)
      have h2 := hb x y
      split <;> omega
    rw [List.length_cons] at hc
    obtain ⟨s', e5, h5⟩ := Rd.tabG hn ps (addM M (min p.1 p.2) (max p.1 p.2) 1) s2 f (c + 1) h4 (fun q hq => hin q (by simp [hq])) hb1 (by omega) (by simpa using hf)
    refine ⟨s', ?_, h5⟩
    have hbm := hb (min p.1 p.2) (max p.1 p.2)
    rw [tabG_stepO _ _ _ f _ _ hmr _ _ e2, if_neg (by rw [h4.e]; simp), hlo, hhi, if_neg (by show ¬ 50 < M (min p.1 p.2) (max p.1 p.2) + 1; omega)]
    exact e5
/-- The text of a graph's single edges is read as the graph with that bag. -/
theorem orders_read {n : Int} (hn : 1 ≤ n ∧ n ≤ 12) {ps : List (Int × Int)} (hin : ∀ p ∈ ps, InP n p) (hl : ps.length ≤ 40) :
    tableP wGraph 45 true (opened (scanR (wGraph ++ 32 :: tabT 45 ⟨n, ps.map endE⟩))) = (⟨n, esOfM (bagM ps) n.toNat⟩, 0, 0) := by
  have hinE : ∀ x ∈ ps.map endE, InE n x := fun x hx => by
    obtain ⟨p, hp, rfl⟩ := List.mem_map.1 hx
    exact endE_in (hin p hp)
  have hlen : (wGraph ++ 32 :: tabT 45 (⟨n, ps.map endE⟩ : G)).length ≤ 4096 := by
    have h1 := itoa_low (n := n) (by omega) (by omega)
    have h2 := arcsT_len (sign := 45) (es := ps.map endE) (fun x hx => by
      have := hinE x hx
      unfold InE at this
      exact ⟨by omega, by omega, by omega, by omega, by omega, by omega⟩)
    rw [List.length_map] at h2
    unfold tabT
    simp [wGraph]
    omega
  have hok := tabGl_ok (word := wGraph) (sign := 45) (g := ⟨n, ps.map endE⟩) (by decide) (by decide) hn hinE
  have hse := tabGl_sepd wGraph 45 (⟨n, ps.map endE⟩ : G)
  rw [← tabGl_text] at hlen ⊢
  have hsc := scan_of_glue _ hok hse hlen
  rw [tabGl_tok] at hsc
  have hrd := hsc.rd
  have hto := opened_ok (glue (tabGl wGraph 45 (⟨n, ps.map endE⟩ : G)) 0)
  generalize opened (scanR (glue (tabGl wGraph 45 (⟨n, ps.map endE⟩ : G)) 0)) = s at *
  have h1 := hrd.need (by show (0 : Int) ≠ 3; decide)
  have h1 : Rd (s.need wGraph) (tN n :: tS 58 :: ((ps.map endE).flatMap (lnT 45) ++ [tE])) := h1
  obtain ⟨s2, e2, h2⟩ := h1.num (lo := 1) (hi := 12) (by omega) (by omega) hn.1 hn.2
  have h3 := h2.need (by show (2 : Int) ≠ 3; decide)
  have h3 : Rd (s2.need [58]) ((ps.map endE).flatMap (lnT 45) ++ [tE]) := h3
  have hfl : ps.length ≤ (s2.need [58]).ts.length := by
    have := congrArg List.length h3.t
    rw [List.length_map, List.length_append] at this
    have h := lnT_len 45 (ps.map endE)
    rw [List.length_map] at h
    omega
  obtain ⟨s4, e4, h4⟩ := Rd.tabG (n := n) (by omega) ps (fun _ _ => 0) (s2.need [58]) _ 0 h3 hin (fun _ _ => ⟨by decide, by decide⟩) (by omega) hfl
  have hts : TsOk (s2.need [58]).ts := by
    have h := (need_ts (num_ts (need_ts hto wGraph).1 1 12).1 [58]).1
    rw [e2] at h
    exact h
  obtain ⟨q1, q2⟩ := tab_eq 45 true n (s2.need [58]).ts.length [] (fun _ _ => 0) (s2.need [58]) hts (RelM.nil n)
  rw [e4] at q1 q2
  have q3 := (q2 (by rw [← q1]; exact h4.e)).eq
  unfold tableP Rs.head
  rw [e2]
  dsimp only
  rw [if_neg (by rw [← q1, h4.e]; simp), q3]
  rfl
/-- One edge, alone. -/
theorem one_text {p : Int × Int} (h : InP 12 p) : graphR ⟨12, [endE p]⟩ = (0, [103, 114, 97, 112, 104, 32, 49, 50, 58] ++ arcT 45 (endE p)) := by
  have hx := endE_in h
  have hck : checkErr ⟨12, [endE p]⟩ = 0 := by
    have hed : EdOk 12 [endE p] := fun k hk => by
      obtain rfl : k = 0 := by simpa using hk
      unfold edgeErr
      have e0 : ((⟨12, [endE p]⟩ : G).es[0]?.getD default) = endE p := rfl
      rw [e0]
      unfold InE at hx
      have hle : (endE p).a ≤ (endE p).b := by show min p.1 p.2 ≤ max p.1 p.2; omega
      rw [if_neg (by unfold vtx; simp; omega), if_neg (by omega), if_neg (by omega)]
    exact hed.check (by decide) (by decide)
  unfold graphR
  rw [if_neg (by omega)]
  have ht : wGraph ++ 32 :: tabT 45 (⟨12, [endE p]⟩ : G) = [103, 114, 97, 112, 104, 32, 49, 50, 58] ++ arcT 45 (endE p) := by
    have e12 : Lib.itoa 12 = [49, 50] := by
      rw [itoa_nat (by decide)]
      show Lib.decDigits 12 = _
      rw [Lib.decDigits_two (by decide) (by decide)]
      rfl
    unfold tabT arcsT
    simp [wGraph, e12]
  rw [ht]
  unfold limR
  have hl : (arcT 45 (endE p)).length ≤ 9 := by
    unfold InE at hx
    exact arcT_low 45 ⟨by omega, by omega, by omega, by omega, by omega, by omega⟩
  rw [if_neg (by simp; omega)]
theorem none_text {n : Int} (hn : 1 ≤ n ∧ n ≤ 12) : graphR ⟨n, []⟩ = (0, wGraph ++ 32 :: tabT 45 ⟨n, []⟩) := by
  have hck : checkErr ⟨n, []⟩ = 0 := by
    have hed : EdOk n [] := fun k hk => by simp at hk
    exact hed.check hn.1 hn.2
  unfold graphR
  rw [if_neg (by omega)]
  unfold limR
  have h1 := itoa_low (n := n) (by omega) (by omega)
  rw [if_neg (by simp [wGraph, tabT, arcsT]; omega)]

theorem esTo_lenO (M : Int → Int → Int) (n : Nat) : (esOfM M n).length ≤ n * n := by
  have hrow : ∀ a k : Nat, ((List.range k).flatMap fun (b : Nat) => if M (a : Int) (b : Int) = 0 then ([] : List E) else [⟨(a : Int), (b : Int), M (a : Int) (b : Int)⟩]).length ≤ k := by
    intro a k
    induction k with
    | zero => simp
    | succ k ih =>
      rw [List.range_succ, List.flatMap_append, List.length_append]
      have : ((List.flatMap (fun (b : Nat) => if M (a : Int) (b : Int) = 0 then ([] : List E) else [⟨(a : Int), (b : Int), M (a : Int) (b : Int)⟩]) [k])).length ≤ 1 := by
        simp only [List.flatMap_cons, List.flatMap_nil, List.append_nil]
        split <;> simp
      omega
  have hall : ∀ k : Nat, ((List.range k).flatMap fun (a : Nat) => rowOfM M a n).length ≤ k * n := by
    intro k
    induction k with
    | zero => simp
    | succ k ih =>
      rw [List.range_succ, List.flatMap_append, List.length_append, Nat.add_mul]
      have : ((List.flatMap (fun (a : Nat) => rowOfM M a n) [k])).length ≤ n := by
        simp only [List.flatMap_cons, List.flatMap_nil, List.append_nil]
        exact hrow k n
      omega
  exact hall n

end Go.Proofs.YtemmepgfngkgmaaGreatDoor
