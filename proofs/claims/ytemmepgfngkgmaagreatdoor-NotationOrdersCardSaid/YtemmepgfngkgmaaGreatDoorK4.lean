/-
  The reference's Scan: its tokens, or the offset and the error, for every text. lexer.Scan: the classes of bytes, the scanner's take and next, Scan: its tokens, or the offset and the error, for every text.
-/
import Derived.Test.YtemmepgfngkgmaaGreatDoorK2
import Derived.Test.YtemmepgfngkgmaaGreatDoorSpec2
import Derived.Laws.EntriesVeiled
namespace Go.Proofs.YtemmepgfngkgmaaGreatDoor
open Go.RowKit

theorem Tryz.underToks : Tryz.prog.underlying 100 = some (.slice 134) := by kernel_rfl
theorem Tryz.infoTok : (Tryz.prog.info? 134).map (fun i => (i.zero, i.size, i.bytes)) = some (some (.agg #[.int .i64 0, .string { data := #[] }, .int .i64 0]), 3, 32) := by kernel_rfl

/-- append(l, x) of a token to a slice of the call's own. -/
theorem wp_app3 {P : Program} (wr : World) {o : Oper} {a : Act} {K : Act → World → Prop} {Q : Exit → Act → World → Prop}
    (s xop : Operand) (t : TypeId) (ho : o.op = .call { callee := .builtin .append, args := #[s, xop], argTypes := #[t, t] })
    (e : TypeId) (ht : P.underlying t = some (.slice e)) (hinfo : (P.info? e).map (fun i => (i.zero, i.size, i.bytes)) = some (some (.agg #[.int .i64 0, .string { data := #[] }, .int .i64 0]), 3, 32))
    (base : Nat) (v : Value) (l : List Tok) (hown : wr.ownsRow base e 3 v l.length (tokCells l)) (x : Tok) (B : Nat)
    (hnews : ∀ j u, x.cells[j]? = some u → wr.cell? ((⟨B, 0, none⟩ : Addr).add j) = some u)
    (hs : a.eval s = v) (hx : a.eval xop = .slice (some ⟨B, 0, none⟩) 1 1) (hlen : l.length ≤ 1000000000) (hbase : base ≤ wr.heap.size)
    (h : ∀ v' w', w'.ownsRow base e 3 v' (l ++ [x]).length (tokCells (l ++ [x])) → wr.grownBy w' v.ownBlock → (∀ k, v.ownBlock = some k → base ≤ k ∧ k < wr.heap.size) → K (a.put o.dst v') w') :
    Oper.wp P o a wr K Q := by
  obtain ⟨i, hi, hz, hsz, hby⟩ := info_parts hinfo
  refine wp_append_own wr s xop t ho base e i _ 3 32 ht hi hz hsz hby rfl (by decide) v l.length _ hs hown ⟨B, 0, none⟩ 1 1 x.cells hx rfl hnews (by intro u hu; simp [Tok.cells] at hu; rcases hu with rfl | rfl | rfl <;> rfl) (by unfold maxLen; omega) (by omega) (by omega) ?_
  intro v' w' hown' hgr _
  refine h v' w' ?_ hgr (fun k hk => hown.lt k hk)
  rw [tokCells_snoc]; simpa using hown'

theorem wpList_app3 {P : Program} (wr : World) {ops : Array Oper} {rest : List Oper} {o : Oper} {a : Act} {Q : Exit → Act → World → Prop} (hgd : o.guard = none)
    (s xop : Operand) (t : TypeId) (ho : o.op = .call { callee := .builtin .append, args := #[s, xop], argTypes := #[t, t] })
    (e : TypeId) (ht : P.underlying t = some (.slice e)) (hinfo : (P.info? e).map (fun i => (i.zero, i.size, i.bytes)) = some (some (.agg #[.int .i64 0, .string { data := #[] }, .int .i64 0]), 3, 32))
    (base : Nat) (v : Value) (l : List Tok) (hown : wr.ownsRow base e 3 v l.length (tokCells l)) (x : Tok) (B : Nat) (hBs : B = wr.heap.size)
    (hs : a.eval s = v) (hx : a.eval xop = .slice (some ⟨B, 0, none⟩) 1 1) (hlen : l.length ≤ 1000000000) (hbase : base ≤ wr.heap.size)
    (h : ∀ v' w', w'.ownsRow base e 3 v' (l ++ [x]).length (tokCells (l ++ [x])) → wr.grownBy w' v.ownBlock → (∀ k, v.ownBlock = some k → base ≤ k ∧ k < wr.heap.size) → wpList P ops Q rest (a.put o.dst v') w') :
    wpList P ops Q (o :: rest) a (wr.alloc (.cells #[.int .i64 x.kind, .string (str x.text), .int .i64 x.pos] e)) := by
  subst hBs
  refine wpList_plain hgd fun _ hK => wp_app3 _ s xop t ho e ht hinfo base v l (hown.alloc _) x wr.heap.size ?_ hs hx hlen (by simp; omega) ?_
  · intro j u hj
    have e2 : (⟨wr.heap.size, 0, none⟩ : Addr).add j = ⟨wr.heap.size, j, none⟩ := by unfold Addr.add; split <;> simp_all
    rw [e2, World.cell?_alloc_new]
    simpa [Tok.cells] using hj
  · intro v' w' h1 h2 h3
    refine hK _ _ (h v' w' h1 ?_ fun k hk => ⟨(h3 k hk).1, (hown.lt k hk).2⟩)
    refine ⟨h2.os, h2.tape, h2.output, by have := h2.size; simp at this; omega, fun k hk hne => ?_⟩
    rw [h2.block k (by simp; omega) hne]
    exact Below.heap_alloc _ _ _ hk

theorem grown_cell {w w' : World} {r : Option Nat} (hg : w.grownBy w' r) (b o : Nat) (hb : b < w.heap.size) (hne : some b ≠ r) : w'.cell? ⟨b, o, none⟩ = w.cell? ⟨b, o, none⟩ := by
  have := hg.block b hb hne
  simp only [World.cell?, this]

/-- What Scan answers. -/
def RetScan (z : Scn) (w : World) (e : Ending) (w' : World) : Prop :=
  ∃ v, e = .returned (.tuple #[v, .int .i64 z.at', .int .i64 z.no]) ∧ w'.ownsRow w.heap.size 134 3 v z.toks.length (tokCells z.toks) ∧ Below w.heap.size w w'

theorem str_drop {s : List UInt8} {p : Nat} (h : p < (str s).size) : s.drop p = (str s)[p]'h :: s.drop (p + 1) := List.drop_eq_getElem_cons (by rw [← str_size]; exact h)
theorem drop_at {s : List UInt8} {p : Nat} (h : p < s.length) : s.drop p = s[p] :: s.drop (p + 1) := List.drop_eq_getElem_cons h

set_option maxRecDepth 100000 in
set_option maxHeartbeats 4000000 in
theorem r_Scan (s : List UInt8) (w : World) : Calls Tryz.prog 104 #[.string (str s)] w (RetScan (scanR s) w) := by
  have hsz := str_size s
  by_cases hlen : 4096 < s.length
  · have h1 : (4096 : Int) < ((str s).size : Int) := by rw [hsz]; omega
    have hz : scanR s = .inl (0, 19) := by unfold scanR; rw [if_pos hlen]
    rw [hz]
    clear hz hlen hsz
    go_enter Tryz.func104, Tryz.ntmps104
    go_wp2_with fail
    go_ret3
    exact ⟨_, rfl, World.ownsRow_nil _ _ _ _, Below.refl _ _⟩
  · have h1 : ¬ (4096 : Int) < ((str s).size : Int) := by rw [hsz]; omega
    have hz : scanR s = fuelS s 0 := by unfold scanR; rw [if_neg hlen]; rfl
    rw [hz]
    have HZ : Hid (Scn.pre [] (fuelS (s.drop 0) 0) = fuelS s 0) := pre_nil _
    generalize fuelS s 0 = z at *
    have HL : Hid (s.length ≤ 4096) := by show _ ≤ _; omega
    clear hz hlen
    go_enter Tryz.func104, Tryz.ntmps104
    go_wp2_with fail
    go_loopw [5, 6] (fun t i wr => ∃ (p : Nat) (l : List Tok), p ≤ s.length ∧ l.length ≤ p ∧ i = .int .i64 p ∧ wr.ownsRow w.heap.size 134 3 t l.length (tokCells l) ∧
      Hid (Scn.pre l (fuelS (s.drop p) p) = z) ∧ Below w.heap.size w wr) (fun _ i _ => s.length - (intOf i).toNat)
    case atStart => exact ⟨0, [], Nat.zero_le _, Nat.le_refl _, rfl, World.ownsRow_nil _ _ _ _, HZ, Below.refl _ _⟩
    case round =>
      clear HZ
      obtain ⟨p, l, hp, hlp, rfl, hown, HP, hB⟩ := hrel
      by_cases hpt : p < s.length
      · have hpt' : p < (str s).size := by rw [hsz]; exact hpt
        have hd := str_drop hpt'
        obtain ⟨c, hcd⟩ : ∃ c, c = (str s)[p]'hpt' := ⟨_, rfl⟩
        rw [← hcd] at hd
        by_cases hc : c = 32
        · have hb : (((((str s)[p]'hpt').toNat : Nat) : Int) == 32) = true := by rw [← hcd, hc]; rfl
          have HS : Hid (Scn.pre l (fuelS (s.drop (p + 1)) (p + 1)) = z) := by
            show _ = _; rw [← HP.out, hd, hc, fuelS_blank]
          clear HP hd hcd hc
          go_wp2_with fail
          go_roundw
          case rel => exact ⟨p + 1, l, by omega, by omega, by go_num, hown, HS, hB⟩
          case measure => simp [intOf]; omega
        · have hb : (((((str s)[p]'hpt').toNat : Nat) : Int) == 32) = false := by
            rw [← hcd, beq_eq_false_iff_ne]; intro h; exact hc (UInt8.toNat_inj.1 (Int.ofNat.inj h))
          have hcl : (c :: s.drop (p + 1)).length ≤ 140737488355328 := by have := HL.out; rw [List.length_cons, List.length_drop]; omega
          have hrl := runOf_len c (s.drop (p + 1))
          have hrl2 : (c :: s.drop (p + 1)).length = s.length - p := by rw [← hd, List.length_drop]
          have hfirst : ∀ w, Calls Tryz.prog 130 #[.string ((str s).extract p (str s).size), .int .i64 p] w (FirstPost c (s.drop (p + 1)) p w) := fun w => by
            have e : (str s).extract p (str s).size = str (c :: s.drop (p + 1)) := by
              rw [str_extract, ← hd, hsz, List.take_of_length_le (by rw [List.length_drop]; omega)]
            rw [e]
            exact r_first c (s.drop (p + 1)) p w hcl
          have HE : Hid (tokErr (kindOf c) (runOf (c :: s.drop (p + 1))) ≠ 0 → z = .inl (p, tokErr (kindOf c) (runOf (c :: s.drop (p + 1))))) := fun he => by
            rw [← HP.out, hd, fuelS_err c _ p hc he]; rfl
          have HT : Hid (tokErr (kindOf c) (runOf (c :: s.drop (p + 1))) = 0 → Scn.pre (l ++ [⟨kindOf c, runOf (c :: s.drop (p + 1)), p⟩]) (fuelS (s.drop (p + (runOf (c :: s.drop (p + 1))).length)) (p + (runOf (c :: s.drop (p + 1))).length)) = z) := fun he => by
            rw [← HP.out, hd, fuelS_tok c _ p hc he]
            have e : (c :: s.drop (p + 1)).drop (runOf (c :: s.drop (p + 1))).length = s.drop (p + (runOf (c :: s.drop (p + 1))).length) := by rw [← hd, List.drop_drop]
            rw [e]
            cases fuelS (s.drop (p + (runOf (c :: s.drop (p + 1))).length)) (p + (runOf (c :: s.drop (p + 1))).length) <;> simp [Scn.pre]
          rw [hrl2] at hrl
          unfold FirstPost at hfirst
          generalize tokErr (kindOf c) (runOf (c :: s.drop (p + 1))) = er at *
          generalize kindOf c = kc at *
          generalize runOf (c :: s.drop (p + 1)) = tx at *
          have HF := hid hfirst
          clear hcl hrl2 hd hcd hc HP hfirst
          by_cases her : er = 0
          · subst her
            have HT' := hid (HT.out rfl)
            clear HT HE
            go_wp2_with fail
            refine (HF.out _).mono ?_
            rintro e w1 ⟨k, t, a, rfl, hk, hB1⟩
            obtain ⟨rfl, rfl, rfl⟩ := hk (by trivial)
            clear HF hk
            have hown1 := owns_below hown hB1
            have hBw := hB.trans (hB1.mono hB.size)
            have hs1 := hBw.size
            have c1 := (cell_new3 w1 (.int .i64 k) (.string (str t)) (.int .i64 p) 134).2.1
            have hlt1 := fun q hq => hown1.lt q hq
            have HC := hid c1
            clear c1
            have hBa : Below w.heap.size w (w1.alloc (.cells #[.int .i64 k, .string (str t), .int .i64 p] 134)) := hBw.alloc hs1 _
            go_simp
            go_wp2_with (at_builtin; refine wpList_app3 (w1.alloc (.cells #[.int .i64 k, .string (str t), .int .i64 p] 134)) rfl _ _ 100 rfl 134 Tryz.underToks Tryz.infoTok w.heap.size _ l (hown1.alloc _) ⟨k, t, p⟩ (w1.heap.size + 1) (by simp) rfl rfl (by have := HL.out; omega) (by simp; omega) ?_; intro v' w2 hown2 hgr2 hbk; have c2 := (grown_cell hgr2 w1.heap.size 1 (by simp) (fun h => absurd (hlt1 _ h.symm).2 (Nat.lt_irrefl _))).trans HC.out)
            rw [str_size, wrapS _ (by have := HL.out; omega)]
            go_roundw
            case rel => exact ⟨p + t.length, l ++ [⟨k, t, p⟩], by omega, by simp; omega, by go_num, hown2, HT', below_grown hBa (by simp; omega) hgr2 (fun q hq => (hbk q hq).1) (Nat.le_refl _)⟩
            case measure => simp [intOf]; omega
          · have hz := HE.out her
            subst hz
            go_wp2_with fail
            refine (HF.out _).mono ?_
            rintro e w1 ⟨k, t, a, rfl, hk, hB1⟩
            clear HF hk
            have hBw := hB.trans (hB1.mono hB.size)
            go_simp
            go_wp2_with fail
            go_ret3
            exact ⟨_, rfl, World.ownsRow_nil _ _ _ _, hBw.alloc hBw.size _⟩
      · have hpt' : ¬ p < (str s).size := by rw [hsz]; exact hpt
        have hpe : p = s.length := by omega
        have HZ : Hid (z = .inr (l ++ [⟨3, [], p⟩])) := by
          show _ = _; rw [← HP.out, hpe, List.drop_length]; rfl
        clear HP hpe
        have hs1 := hB.size
        go_wp2_with (at_builtin; refine wpList_app3 wr rfl _ _ 100 rfl 134 Tryz.underToks Tryz.infoTok w.heap.size _ l hown ⟨3, [], p⟩ wr.heap.size rfl rfl rfl (by have := HL.out; omega) (by omega) ?_; intro v' w2 hown2 hgr2 hbk)
        go_ret3
        rw [HZ.out]
        exact ⟨_, rfl, hown2, below_grown hB hs1 hgr2 (fun q hq => (hbk q hq).1) (Nat.le_refl _)⟩

end Go.Proofs.YtemmepgfngkgmaaGreatDoor

namespace Go.Proofs.YtemmepgfngkgmaaGreatDoor
open Go.RowKit

theorem results_cell1' {P : Program} {fn : Func} {k : Nat} {t : TypeId} (h : fn.results = #[.cell k t]) {tmps : Array Value} {b : Nat} {v : Value} {w : World} (ht : tmps[k]?.getD undef = .pointer (some ⟨b, 0, none⟩))
    (hl : (loadVar t ⟨b, 0, none⟩).run P w = .ok v w) : (results fn tmps).run P w = .ok v w := by
  simp [results, h, ht, asAddr, hl]

def clW : List Value := [.string (str letters), .int .i64 0, .func (.func 74) #[] #[], .bool true]
def clN : List Value := [.string (str figures), .int .i64 1, .func (.func 170) #[] #[], .bool true]
def clS : List Value := [.string (str marks), .int .i64 2, .func (.func 171) #[] #[], .bool false]
def clsV : Value := .agg #[.string (str letters), .int .i64 0, .func (.func 74) #[] #[], .bool true, .string (str figures), .int .i64 1, .func (.func 170) #[] #[], .bool true,
  .string (str marks), .int .i64 2, .func (.func 171) #[] #[], .bool false]

set_option maxRecDepth 100000 in
set_option maxHeartbeats 2000000 in
theorem p_classes (w : World) : Calls Tryz.prog 148 #[] w fun e w' => e = .returned clsV ∧ Below w.heap.size w w' := by
  go_enter Tryz.func148, Tryz.ntmps148
  go_wp2_with fail
  refine bodyPost_ret (results_cell1' (v := clsV) rfl rfl ?_) rfl ?_
  · unfold clsV
    go_simp
    exact ⟨rfl, rfl, rfl⟩
  · exact ⟨rfl, by go_grown⟩

/-- The scanner in memory: the text, where it stands, the tokens so far. -/
structure Scr (w : World) (B b : Nat) (s : List UInt8) (p : Nat) (v : Value) (l : List Tok) : Prop where
  blk : Blk w b #[.string (str s), .int .i64 p, v] 188
  le : B ≤ b
  row : w.ownsRow B 134 3 v l.length (tokCells l)
  ne : some b ≠ v.ownBlock
  size : B ≤ w.heap.size

theorem Scr.below {w w' : World} {B b : Nat} {s : List UInt8} {p : Nat} {v : Value} {l : List Tok} (h : Scr w B b s p v l) (hB : Below w.heap.size w w') : Scr w' B b s p v l :=
  ⟨h.blk.below hB, h.le, owns_below h.row hB, h.ne, Nat.le_trans h.size hB.size⟩
theorem Scr.cells {w : World} {B b : Nat} {s : List UInt8} {p : Nat} {v : Value} {l : List Tok} (h : Scr w B b s p v l) :
    w.cell? ⟨b, 0, none⟩ = some (.string (str s)) ∧ w.cell? ⟨b, 1, none⟩ = some (.int .i64 p) ∧ w.cell? ⟨b, 2, none⟩ = some v ∧ b < w.heap.size ∧ w.frozen? ⟨b, 1, none⟩ = false ∧ w.frozen? ⟨b, 2, none⟩ = false :=
  ⟨by rw [h.blk.cell]; rfl, by rw [h.blk.cell]; rfl, by rw [h.blk.cell]; rfl, h.blk.lt, h.blk.frozen 1, h.blk.frozen 2⟩

theorem owns_ne_blk {w : World} {base b : Nat} {e T : TypeId} {size n : Nat} {v : Value} {xs : List Value} {cs : Array Value} (h : w.ownsRow base e size v n xs) (hb : Blk w b cs T) (hT : T ≠ e) : some b ≠ v.ownBlock := by
  rcases h.2 with ⟨rfl, _⟩ | ⟨g, cap, cur, rfl, _, hg, _⟩
  · simp [Value.ownBlock]
  · intro he
    have hgb : b = g := by simpa [Value.ownBlock] using he
    subst hgb
    unfold Blk at hb
    rw [hg] at hb
    simp at hb
    exact hT hb.2.symm

theorem Scr.put {w w' : World} {B b : Nat} {s : List UInt8} {p q : Nat} {v v' : Value} {l' : List Tok} (h : Blk w b #[.string (str s), .int .i64 p, v] 188) (hle : B ≤ b) (hs : B ≤ w.heap.size)
    (hrow : w.ownsRow B 134 3 v' l'.length (tokCells l')) (he : w' = (w.setCell ⟨b, 2, none⟩ v').setCell ⟨b, 1, none⟩ (.int .i64 q)) : Scr w' B b s q v' l' := by
  subst he
  have hne := owns_ne_blk hrow h (by decide)
  have h1 : Blk ((w.setCell ⟨b, 2, none⟩ v').setCell ⟨b, 1, none⟩ (.int .i64 q)) b _ _ := (h.set 2 v').set 1 (.int .i64 q)
  refine ⟨h1, hle, ?_, hne, by simpa using hs⟩
  have ho : v'.ownBlock = none ∨ v'.ownBlock ≠ some b := .inr (fun h => hne h.symm)
  exact (hrow.kept (grown_set w b 2 v') ho).kept (grown_set _ b 1 _) ho

/-- What take leaves. -/
def Took (B b : Nat) (s : List UInt8) (p : Nat) (v : Value) (l : List Tok) (k : Int) (t : List UInt8) (er : Int) (w : World) (e : Ending) (w' : World) : Prop :=
  e = .returned (.int .i64 er) ∧ Below B w w' ∧ (er ≠ 0 → Scr w' B b s p v l) ∧ (er = 0 → ∃ v', Scr w' B b s (p + t.length) v' (l ++ [⟨k, t, p⟩]))

theorem take_drop_len (f : UInt8 → Bool) (l : List UInt8) : (l.takeWhile f).length + (l.dropWhile f).length = l.length := by
  rw [← List.length_append, List.takeWhile_append_dropWhile]

end Go.Proofs.YtemmepgfngkgmaaGreatDoor
