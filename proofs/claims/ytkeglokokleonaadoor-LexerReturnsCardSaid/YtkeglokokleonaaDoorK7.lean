/-
  The scanner's take of a number: for every text.
-/
import Derived.Test.YtkeglokokleonaaDoorK5
namespace Go.Proofs.YtkeglokokleonaaDoor
open Go.RowKit

set_option maxRecDepth 100000 in
set_option maxHeartbeats 4000000 in
theorem p_takeN (B b : Nat) (s : List UInt8) (p : Nat) (v : Value) (l : List Tok) (w : World) (h : Scr w B b s p v l) (hp : p < s.length) (hs : s.length ≤ 4096) (hl : l.length ≤ p) :
    Calls Tryd.prog 51 #[.pointer (some ⟨b, 0, none⟩), .agg #[.string (str figures), .int .i64 1, .func (.func 71) #[] #[], .bool true]] w
      (Took B b s p v l 1 ((s.drop p).takeWhile isDig) (numErr ((s.drop p).takeWhile isDig)) w) := by
  have hsz := str_size s
  have hpt : p ≤ (str s).size := by rw [hsz]; omega
  obtain ⟨c0, c1, c2, hbl, f1, f2⟩ := h.cells
  have HS := hid h
  have hvl : ∀ k, v.ownBlock = some k → k < w.heap.size := fun k hk => (h.row.lt k hk).2
  obtain ⟨va, vn, vc, rfl⟩ : ∃ va vn vc, v = .slice va vn vc := by
    obtain ⟨a, cap, h1, _⟩ := owns_at h.row
    exact ⟨_, _, _, h1⟩
  have HX : Hid ((str s).extract p s.length = str (s.drop p)) := by
    show _ = _; rw [str_extract, List.take_of_length_le (by rw [List.length_drop]; omega)]
  have hrest : (s.drop p).length = s.length - p := List.length_drop
  generalize s.drop p = rest at *
  have HR := hid hrest
  have hrl : rest.length ≤ 4096 := by omega
  have htd := take_drop_len isDig rest
  have hdw : Lib.trimLeftS rest figures = rest.dropWhile isDig := by
    unfold Lib.trimLeftS; exact congrArg (List.dropWhile · rest) (funext fun c => dig_has c)
  have htk : rest.take (rest.takeWhile isDig).length = rest.takeWhile isDig := by
    have := List.takeWhile_append_dropWhile (p := isDig) (l := rest)
    conv => lhs; arg 2; rw [← this]
    rw [List.take_left]
  have HEX : Hid ((str rest).extract 0 (rest.takeWhile isDig).length = str (rest.takeWhile isDig)) := by
    show _ = _; rw [str_extract, List.drop_zero, Nat.sub_zero, htk]
  have htrim := fun w => c_TrimLeft rest figures w (by decide) (by decide)
  rw [hdw] at htrim
  generalize rest.takeWhile isDig = t at *
  generalize rest.dropWhile isDig = d at *
  have hlen : (rest.length : Int) - (d.length : Int) = (t.length : Int) := by omega
  have htl : t.length ≤ rest.length := by omega
  have HN : Hid (RowKit.wrap64 (((str rest).size : Int) - ((str d).size : Int)) = (t.length : Int)) := by
    show _ = _; rw [str_size, str_size, hlen, wrapS _ (by omega)]
  have HTS : Hid (t.length ≤ (str rest).size) := by show _ ≤ _; rw [str_size]; exact htl
  have HTB : Hid (p + t.length ≤ 4096) := by show _ ≤ _; omega
  have hchk := fun w => p_number t w (by omega)
  generalize numErr t = er at *
  have HRL := hid hrl
  have HSL := hid hs
  have HLL := hid hl
  have HP := hid hp
  clear h hrest hrl htd hdw htk hs hl hp
  go_enter Tryd.func51, Tryd.ntmps51
  go_wp2
  go_quiet (fail)
  rw [HX.out]
  go_wp2_with fail
  refine (htrim _).mono ?_
  rintro e w1 ⟨rfl, hB1⟩
  go_simp
  go_wp2_with fail
  rw [HN.out]
  have hk1 : Below w.heap.size w w1 := (((Below.refl _ _).alloc (Nat.le_refl _) _).trans (below_dN (Below.refl _ _) _)).trans (hB1.mono (by simp))
  have S1 := HS.out.below hk1
  have hbx : ∀ j, w1.cell? ⟨w.heap.size, j, none⟩ = (#[.string (str figures), .int .i64 1, .func (.func 71) #[] #[], .bool true] : Array Value)[j]? := fun j => by
    rw [(bcellB hB1).1 _ _ (by simp)]
    exact World.cell?_alloc_new _ _ _ _
  have hx1 : w1.cell? ⟨w.heap.size, 1, none⟩ = some (.int .i64 1) := hbx 1
  have hx2 : w1.cell? ⟨w.heap.size, 2, none⟩ = some (.func (.func 71) #[] #[]) := hbx 2
  have hbs : w.heap.size < w1.heap.size := by have := hB1.size; simp at this; omega
  have hts := HTS.out
  clear hB1 hbx htrim hlen htl c0 c1 c2 f1 f2
  let S : World → Prop := fun w' => w' = w1.drew
  (refine wp_region_text 5 [0,1,2,3,4] S (by kernel_rfl) (by kernel_rfl) (by intro _ _ d _ _ h; cases d <;> exact h) ?hS ?_; rotate_left; simp only [List.map_cons, List.map_nil, List.getD_cons_zero, List.getD_cons_succ, List.drop_succ_cons, List.drop_zero])
  case hS => rfl
  (repeat (refine' wpSeq_take rfl _ (by rfl) ?_ ?_; rotate_left; focus (intro w' hS; (try dsimp only at hS); subst hS; go_simp; (first | done | with_reducible rfl)); (try simp only [Act.put, List.setIfInBounds_toArray, List.set_cons_zero, List.set_cons_succ])))
  refine wpSeq_nil ?_
  clear S
  rw [HEX.out]
  clear hts
  go_wp2_with fail
  refine (hchk _).mono ?_
  rintro e w2 ⟨rfl, hB2⟩
  have hk2 : Below w1.heap.size w1 w2 := ((Below.refl w1.heap.size w1).drew).trans hB2
  have S2 := S1.below hk2
  have hB02 : Below B w w2 := (hk1.mono HS.out.size).trans (hk2.mono S1.size)
  have hy1 : w2.cell? ⟨w.heap.size, 1, none⟩ = some (.int .i64 1) := ((bcellB hk2).1 _ _ hbs).trans hx1
  have hbs2 : w.heap.size < w2.heap.size := Nat.lt_of_lt_of_le hbs hk2.size
  obtain ⟨d0, d1, d2, dbl, e1, e2⟩ := S2.cells
  clear hB2 hx1 hx2 hbs hk1 hk2 S1 hchk HN HX
  have H2 := hid S2
  clear S2
  have HB02 := hid hB02
  clear hB02
  by_cases her : er = 0
  · subst her
    go_simp
    go_wp2_with fail
    let S : World → Prop := fun w' => w'.cell? ⟨b, 0, none⟩ = some (.string (str s)) ∧ w'.cell? ⟨b, 1, none⟩ = some (.int .i64 p) ∧ w'.cell? ⟨b, 2, none⟩ = some (.slice va vn vc) ∧ w'.cell? ⟨w.heap.size, 1, none⟩ = some (.int .i64 1)
    have hts := HTS.out
    (refine wp_region_text 19 [0,1,2,3,4,5,6,7,8,9,10,11,12,13,14,15,16,17,18] S (by kernel_rfl) (by kernel_rfl) (by intro _ _ d _ _ h; cases d <;> exact h) ?hS ?_; rotate_left; simp only [List.map_cons, List.map_nil, List.getD_cons_zero, List.getD_cons_succ, List.drop_succ_cons, List.drop_zero])
    case hS => exact ⟨d0, d1, d2, hy1⟩
    (repeat (refine' wpSeq_take rfl _ (by rfl) ?_ ?_; rotate_left; focus (intro w' hS; (try dsimp only at hS); obtain ⟨s0, s1, s2, s3⟩ := hS; go_simp; (first | done | with_reducible rfl)); (try simp only [Act.put, List.setIfInBounds_toArray, List.set_cons_zero, List.set_cons_succ])))
    rw [HEX.out]
    obtain ⟨W3, hW3⟩ : ∃ W3, W3 = (w2.alloc (.cells #[.int .i64 1, .string (str t), .int .i64 p] 40)).drew := ⟨_, rfl⟩
    have hg3 : w2.grownBy W3 none := by rw [hW3]; exact ⟨rfl, rfl, rfl, by simp, fun k hk _ => Below.heap_alloc w2 _ k hk⟩
    have hsz3 : w2.heap.size < W3.heap.size := by rw [hW3]; simp
    have hn3 : ∀ j u, (⟨1, t, p⟩ : Tok).cells[j]? = some u → W3.cell? ((⟨w2.heap.size, 0, none⟩ : Addr).add j) = some u := fun j u hj => by
      have e2 : (⟨w2.heap.size, 0, none⟩ : Addr).add j = ⟨w2.heap.size, j, none⟩ := by unfold Addr.add; split <;> simp_all
      rw [e2, hW3]
      have := World.cell?_alloc_new w2 (#[.int .i64 1, .string (str t), .int .i64 p]) 40 j
      exact this.trans (by simpa [Tok.cells] using hj)
    have hgc : ∀ o, ∀ k, k < w2.heap.size → W3.cell? ⟨k, o, none⟩ = w2.cell? ⟨k, o, none⟩ := fun o k hk => grown_cell hg3 k o hk (by simp)
    have hS3 : S W3 := ⟨(hgc _ _ dbl).trans d0, (hgc _ _ dbl).trans d1, (hgc _ _ dbl).trans d2, (hgc _ _ hbs2).trans hy1⟩
    refine wpSeq_call rfl (by rfl) (fun K hK => ?_)
    go_simp
    rw [← hW3]
    refine hK _ _ hS3 ?_
    clear hK K
    (try simp only [Act.put, List.setIfInBounds_toArray, List.set_cons_zero, List.set_cons_succ])
    have hrow3 : W3.ownsRow B 40 3 (.slice va vn vc) l.length (tokCells l) := H2.out.row.kept hg3 (by cases h : (Value.slice va vn vc).ownBlock <;> simp)
    have hbs3 : B ≤ W3.heap.size := Nat.le_trans H2.out.size (Nat.le_of_lt hsz3)
    have hblk3 : Blk W3 b _ _ := H2.out.blk.grown hg3 (by simp)
    refine wpSeq_call rfl (by rfl) (fun K hK => ?_)
    refine wp_app3 W3 (.tmp 40) (.tmp 51) 23 rfl 40 Tryd.underToks Tryd.infoTok B _ l hrow3 ⟨1, t, p⟩ w2.heap.size hn3 rfl rfl (by have := HLL.out; have := HTB.out; omega) hbs3 ?_
    intro v' w4 hown4 hgr4 hbk
    obtain ⟨va', vn', vc', rfl⟩ : ∃ va vn vc, v' = .slice va vn vc := by
      obtain ⟨a, cap, h1, _⟩ := owns_at hown4
      exact ⟨_, _, _, h1⟩
    have hne := H2.out.ne
    have hbn : some w.heap.size ≠ (Value.slice va vn vc).ownBlock := fun h => absurd (hvl _ h.symm) (Nat.lt_irrefl _)
    have hblk4 : Blk w4 b _ _ := hblk3.grown hgr4 hne
    have hS4 : S w4 := ⟨(grown_cell hgr4 b 0 (by omega) hne).trans hS3.1, (grown_cell hgr4 b 1 (by omega) hne).trans hS3.2.1, (grown_cell hgr4 b 2 (by omega) hne).trans hS3.2.2.1, (grown_cell hgr4 _ 1 (by omega) hbn).trans hS3.2.2.2⟩
    refine hK _ _ hS4 ?_
    clear hK K
    (try simp only [Act.put, List.setIfInBounds_toArray, List.set_cons_zero, List.set_cons_succ])
    (repeat (refine' wpSeq_take rfl _ (by rfl) ?_ ?_; rotate_left; focus (intro w' hS; (try dsimp only at hS); obtain ⟨s0, s1, s2, s3⟩ := hS; go_simp; (first | done | with_reducible rfl)); (try simp only [Act.put, List.setIfInBounds_toArray, List.set_cons_zero, List.set_cons_succ])))
    refine wpSeq_nil ?_
    obtain ⟨g0, g1, g2, g3⟩ := hS4
    have gl4 := hblk4.lt
    have gf1 := hblk4.frozen 1
    have gf2 := hblk4.frozen 2
    have HTL : Hid (RowKit.wrap64 ((p : Int) + (t.length : Int)) = ((p + t.length : Nat) : Int)) := by
      show _ = _; have := HTB.out; rw [wrapS _ (by omega)]; omega
    clear S hS3
    go_wp2_with fail
    rw [HTL.out]
    go_ret
    refine ⟨rfl, ?_, fun h => absurd rfl h, fun _ => ⟨_, Scr.put hblk4 H2.out.le (Nat.le_trans hbs3 hgr4.size) hown4 rfl⟩⟩
    have hBB := ((HB02.out.grown hg3 H2.out.size (by simp)).grown hgr4 hbs3 (fun k hk => (hbk k hk).1))
    exact (hBB.setCell (p := ⟨b, 2, none⟩) H2.out.le _).setCell (p := ⟨b, 1, none⟩) H2.out.le _
  · go_simp
    go_wp2_with fail
    go_ret
    exact ⟨rfl, HB02.out, fun _ => H2.out, fun h => absurd h her⟩


end Go.Proofs.YtkeglokokleonaaDoor
