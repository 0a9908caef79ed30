/-
  A bag of pairs: a map keyed by a struct, that the call makes. Its laws.
-/
import Derived.Maps.OwnOps
import Derived.Maps.RangeWalk
import Derived.Maps.Ext
import Derived.WideKeyEntry
import Derived.DeepKeys4
import Derived.Test.YtemmepgfngkgmaaGreatDoorN31
namespace Go.Proofs.YtemmepgfngkgmaaGreatDoor
open Go.RowKit Go.Maps
set_option linter.unusedVariables false
set_option linter.unusedSimpArgs false

theorem und_bag : Tryz.prog.underlying 160 = some (.map 156 3) := by kernel_rfl
theorem und_intM : Tryz.prog.underlying 3 = some (.int .i64) := by kernel_rfl
theorem zero_intM (w : World) : (zeroValue 3).run Tryz.prog w = .ok (.int .i64 0) w := by kernel_rfl
theorem law_pair : WideMaps.KeyLaw Tryz.prog 156 := deep_law_laid law_laidOut (m := 5) (by decide) (of_decide_eq_true (by kernel_rfl)) (by kernel_rfl) (by kernel_rfl)
theorem K_pair : Keyed Tryz.prog 156 := Keyed.of_law law_pair
def keyL (a b : Int) : Lit := .string (keyBytes [.int .i64 a, .int .i64 b])
def pairV (a b : Int) : Value := .agg #[.int .i64 a, .int .i64 b]
theorem struct_pair : ∃ f0 f1 : Field, Tryz.prog.underlying 156 = some (.struct #[f0, f1]) ∧ f0.type = 3 ∧ f1.type = 3 ∧ f0.offset = 0 ∧ f1.offset = 1 ∧ ((f0.name != "_") = true ∧ (f1.name != "_") = true) :=
  ⟨_, _, Tryz.underlying156, rfl, rfl, rfl, rfl, by kernel_rfl, by kernel_rfl⟩
theorem cells_pairT : Tryz.prog.cellsOf 156 = 2 := by kernel_rfl
theorem cells_intTT : Tryz.prog.cellsOf 3 = 1 := by kernel_rfl
theorem keyType_pair : Tryz.prog.keyType 156 = true := by kernel_rfl
theorem keyLits_int (d : Nat) {a : Int} (ha : (Lit.int .i64 a).wf = true) : Tryz.prog.keyLits (d + 1) 3 [.int .i64 a] = some [.int .i64 a] := by
  unfold Program.keyLits
  rw [und_intM]
  simp [ha]
theorem keyLits_pair (d : Nat) {a b : Int} (ha : (Lit.int .i64 a).wf = true) (hb : (Lit.int .i64 b).wf = true) : Tryz.prog.keyLits (d + 2) 156 [.int .i64 a, .int .i64 b] = some [.int .i64 a, .int .i64 b] := by
  obtain ⟨f0, f1, hu, t0, t1, o0, o1, n0, n1⟩ := struct_pair
  unfold Program.keyLits
  rw [hu]
  dsimp only
  rw [if_pos ⟨by rw [cells_pairT]; rfl, by simp [n0, n1]⟩]
  simp only [List.mapM_cons, List.mapM_nil, t0, t1, o0, o1, cells_intTT]
  have e0 : (([Value.int .i64 a, Value.int .i64 b].drop 0).take 1) = [Value.int .i64 a] := rfl
  have e1 : (([Value.int .i64 a, Value.int .i64 b].drop 1).take 1) = [Value.int .i64 b] := rfl
  rw [e0, e1, keyLits_int d ha, keyLits_int d hb]
  rfl
theorem key_pair {a b : Int} (ha : (Lit.int .i64 a).wf = true) (hb : (Lit.int .i64 b).wf = true) : keyOf Tryz.prog 156 (pairV a b) = some (keyL a b) := by
  obtain ⟨f0, f1, hu, _⟩ := struct_pair
  have hpos : decide (0 < Tryz.prog.types.size) = true := by kernel_rfl
  have hsz : ∃ m, Tryz.prog.types.size = m + 1 := by
    have := of_decide_eq_true hpos
    exact ⟨Tryz.prog.types.size - 1, by omega⟩
  obtain ⟨m, hm⟩ := hsz
  unfold keyOf pairV keyL
  rw [hu]
  dsimp only
  rw [keyType_pair]
  have hf : (Value.agg #[.int .i64 a, .int .i64 b]).formed Tryz.prog 156 = true := by
    unfold Value.formed
    rw [hu]
    dsimp only
    rw [cells_pairT]
    rfl
  rw [hf, hm]
  have hc : (Value.agg #[.int .i64 a, .int .i64 b]).cells.toList = [.int .i64 a, .int .i64 b] := rfl
  rw [hc, keyLits_pair m ha hb]
  rfl
theorem wf_small {a : Int} (h : 0 ≤ a ∧ a < 100) : (Lit.int .i64 a).wf = true := WalkArith.wf_i64 (by omega)
def InR (a b : Int) : Prop := (0 ≤ a ∧ a < 100) ∧ (0 ≤ b ∧ b < 100)
theorem key_inR {a b : Int} (h : InR a b) : keyOf Tryz.prog 156 (pairV a b) = some (keyL a b) := key_pair (wf_small h.1) (wf_small h.2)
theorem keyL_inj {a b c d : Int} (h : InR a b) (h2 : InR c d) (e : keyL a b = keyL c d) : a = c ∧ b = d := by
  have k1 := key_inR h
  have k2 := key_inR h2
  rw [← e] at k2
  have := law_pair.inj k1 k2
  unfold pairV at this
  simpa using this
theorem keyL_key {a b : Int} (h : InR a b) : WideAt.IsKeyLit (keyL a b) := K_pair.key (key_inR h)

/-- The datum says how often pairs are joined. -/
structure BagD (D : DataW Unit) (M : Int → Int → Int) : Prop where
  m : IsMap D
  has : ∀ kl, has D kl = true ↔ ∃ a b, InR a b ∧ kl = keyL a b ∧ M a b ≠ 0
  at' : ∀ a b, InR a b → D.atKey (keyL a b) (.lit (.int .i64 0)) = .lit (.int .i64 (M a b))
theorem BagD.nil : BagD (.map []) (fun _ _ => 0) := ⟨⟨[], rfl⟩, fun kl => ⟨fun h => by simp [Maps.has] at h, fun ⟨a, b, _, _, h⟩ => absurd rfl h⟩, fun a b _ => rfl⟩
theorem BagD.put {D : DataW Unit} {M : Int → Int → Int} (h : BagD D M) {a b : Int} (hr : InR a b) (h0 : 0 ≤ M a b) : BagD (D.put (keyL a b) (.lit (.int .i64 (M a b + 1)))) (addM M a b 1) := by
  have hk := keyL_key hr
  refine ⟨h.m.put _ _, fun kl => ?_, fun x y hxy => ?_⟩
  · by_cases e : kl = keyL a b
    · subst e
      rw [has_put_same h.m hk]
      refine ⟨fun _ => ⟨a, b, hr, rfl, ?_⟩, fun _ => rfl⟩
      unfold addM
      rw [if_pos ⟨rfl, rfl⟩]
      omega
    · rw [has_put_other e, h.has]
      constructor
      · rintro ⟨x, y, h1, rfl, h2⟩
        refine ⟨x, y, h1, rfl, ?_⟩
        unfold addM
        rw [if_neg (fun hh => e (by rw [hh.1, hh.2]))]
        exact h2
      · rintro ⟨x, y, h1, rfl, h2⟩
        refine ⟨x, y, h1, rfl, ?_⟩
        unfold addM at h2
        rw [if_neg (fun hh => e (by rw [hh.1, hh.2]))] at h2
        exact h2
  · unfold addM
    by_cases e : x = a ∧ y = b
    · obtain ⟨rfl, rfl⟩ := e
      rw [if_pos ⟨rfl, rfl⟩, atKey_put_same h.m hk]
    · rw [if_neg e, atKey_put_other (fun hh => e (keyL_inj hxy hr hh)), h.at' x y hxy]

section
open Go.ChangeMaps Go.MapKept
open Go.WideElems (Fit rg rd entry_then_store)
variable {P : Program} {w : World} {t k e : TypeId} {b n : Nat} {D : DataW Unit}
theorem ownsMap_heap {w w' : World} {R : Value → Option (DataW Unit × List MemPlace)} (h : w.ownsMap P k R b n D) (hh : w'.heap[b]? = w.heap[b]?) : w'.ownsMap P k R b n D := by
  obtain ⟨es, clock, hb, F, hs, hD⟩ := h
  exact ⟨es, clock, hh.trans hb, F, hs, hD⟩
/-- 'm[k]++', by the two operations it is laid as: the entry, and the store into it. -/
theorem entry_own (KL : WideMaps.KeyLaw P k) (ht : P.underlying t = some (.map k e)) (he : P.underlying e = some (.int .i64)) (hz : ∀ u : World, (zeroValue e).run P u = .ok (.int .i64 0) u)
    (hown : w.ownsMap P k (plainElem P e) b n D) (hn : n < maxLen) {key : Value} {kl : Lit} (hkey : keyOf P k key = some kl) {c : Int} (hat : D.atKey kl (.lit (.int .i64 0)) = .lit (.int .i64 c)) :
    ∃ (v0 : Value) (st : Nat) (w1 : World) (D1 : DataW Unit), (Instr.mapEntry t (.map (some b)) key).run P w = .ok (.tuple #[v0, .int .i64 st]) w1 ∧ w1.ownsMap P k (plainElem P e) b (n + 1) D1 ∧ D1.atKey kl (.lit (.int .i64 0)) = .lit (.int .i64 c) ∧ w.grownBy w1 (some b) ∧ w1.heap.size = w.heap.size ∧
      ∀ (w2 : World) (x : Int), (Lit.int .i64 x).wf = true → w2.heap[b]? = w1.heap[b]? → ∃ w3, (Instr.entryStore t (.map (some b)) (.int .i64 st) (.int .i64 x)).run P w2 = .ok () w3 ∧ w3.ownsMap P k (plainElem P e) b (n + 1) (D.put kl (.lit (.int .i64 x))) ∧ w2.grownBy w3 (some b) := by
  have K := Keyed.of_law KL
  have hw0 : (Lit.int .i64 0).wf = true := by decide
  have hown' := hown
  have hb0 := hown.lt
  obtain ⟨es, clock, hb, F, hs, hD⟩ := hown
  obtain ⟨v0, st, es1, clock1, hrun, hv, hst⟩ := entry_then_store KL ht hz hb F hkey
  have hg : ∀ o, w.grownBy (setBlock w b o) (some b) := fun o => ⟨rfl, rfl, rfl, by simp [setBlock], fun i _ hi => heap_setBlock_other hb _ (fun e => hi (by rw [e]))⟩
  refine ⟨v0, st, setBlock w b (.map es1 clock1), ?_⟩
  have key : ∃ D1 : DataW Unit, (setBlock w b (.map es1 clock1)).ownsMap P k (plainElem P e) b (n + 1) D1 ∧ D1.atKey kl (.lit (.int .i64 0)) = .lit (.int .i64 c) := by
    obtain ⟨wu, hu, hou, _⟩ := hown'.update K ht hn hkey (plainElem_int he hw0)
    rcases KL.find w hkey es.toList F.keys with ⟨h1, h2⟩ | ⟨j, e0, h1, h2, h3⟩
    · have hr2 : (Instr.mapEntry t (.map (some b)) key).run P w = .ok (.tuple #[.int .i64 0, goInt clock]) (setBlock w b (.map (es.push ⟨key, .int .i64 0, clock⟩) (clock + 1))) := by
        simp [Instr.mapEntry, run_underlying ht, MapKept.run_getObj_map hb, KL.check w false hkey, h1, hz, MapKept.run_setObj_map _ hb, Result.andThen, setBlock]
      have hu2 : (Instr.mapUpdate t (.map (some b)) key (.int .i64 0)).run P w = .ok () (setBlock w b (.map (es.push ⟨key, .int .i64 0, clock⟩) (clock + 1))) := by
        simp [Instr.mapUpdate, run_underlying ht, MapKept.run_getObj_map hb, KL.check w false hkey, h1, MapKept.run_setObj_map _ hb, Result.andThen, setBlock]
      rw [hrun] at hr2
      rw [hu] at hu2
      have e1 : setBlock w b (.map es1 clock1) = setBlock w b (.map (es.push ⟨key, .int .i64 0, clock⟩) (clock + 1)) := by injection hr2
      have e2 : wu = setBlock w b (.map (es.push ⟨key, .int .i64 0, clock⟩) (clock + 1)) := by injection hu2
      rw [e1, ← e2]
      refine ⟨_, hou, ?_⟩
      rcases fit_look false K ht (hz w) hb F hkey with ⟨_, _, hat2⟩ | ⟨e0, y, hm, hk, _⟩
      · rw [atKey_put_same ⟨_, hD⟩ (K.key hkey)]
        have := hat2 (.lit (.int .i64 0))
        rw [← hD, hat] at this
        exact this.symm
      · exact absurd hk (h2 e0 hm)
    · have hj : es[j]? = some e0 := by simpa using h2
      have hr2 : ∃ st', (Instr.mapEntry t (.map (some b)) key).run P w = .ok (.tuple #[e0.val, goInt st']) (setBlock w b (.map es clock)) := by
        refine ⟨e0.born, ?_⟩
        have hsame : es.modify j (fun e => { e with key := key }) = es := by
          apply Array.ext'
          rw [Array.toList_modify, modify_eq_set _ _ _ _ h2]
          have : ({ e0 with key := key } : MapEntry) = e0 := by rw [← h3]
          rw [this]
          exact WideElems.set_self _ _ _ h2
        simp [Instr.mapEntry, run_underlying ht, MapKept.run_getObj_map hb, KL.check w false hkey, h1, hj, h3, KL.stays w hkey, hsame, MapKept.run_setObj_map _ hb, Result.andThen, setBlock]
      obtain ⟨st', hr2⟩ := hr2
      rw [hrun] at hr2
      have e1 : setBlock w b (.map es1 clock1) = setBlock w b (.map es clock) := by injection hr2
      rw [e1]
      refine ⟨D, (ownsMap_heap hown' ?_).mono (Nat.le_succ _), hat⟩
      rw [heap_setBlock_same hb, hb]
  obtain ⟨D1, hD1, hat1⟩ := key
  refine ⟨D1, hrun, hD1, hat1, hg _, by simp [setBlock], fun w2 x hx hw2 => ?_⟩
  rw [heap_setBlock_same hb] at hw2
  obtain ⟨es', clock', hr3, hu3⟩ := hst w2 (.int .i64 x) hw2
  obtain ⟨wu, hu, hou, _⟩ := hown'.update K ht hn hkey (plainElem_int he hx)
  rw [hu] at hu3
  have e2 : wu = setBlock w b (.map es' clock') := by injection hu3
  rw [e2] at hou
  refine ⟨_, hr3, ownsMap_heap hou ?_, ⟨rfl, rfl, rfl, by simp [setBlock], fun i _ hi => heap_setBlock_other hw2 _ (fun e => hi (by rw [e]))⟩⟩
  rw [heap_setBlock_same hw2, heap_setBlock_same hb]
end

end Go.Proofs.YtemmepgfngkgmaaGreatDoor
