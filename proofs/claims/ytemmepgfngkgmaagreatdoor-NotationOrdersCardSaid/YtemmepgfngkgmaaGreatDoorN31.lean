/-
  What the row's listed variables give: the table of tens, the error of numbers out of range. The walk of NotationGraphs.
-/
import Derived.Test.YtemmepgfngkgmaaGreatDoorN30
import Derived.Test.YtemmepgfngkgmaaGreatDoorRd
import Derived.Stop.LaidErr
import Derived.Lib.LaidTab
import Derived.MakeChecks
import Derived.Test.YtemmepgfngkgmaaGreatDoorTie
import Derived.Test.YtemmepgfngkgmaaGreatDoorCards
import Derived.LaidMore
import Derived.Lay
import Derived.SevenTiedAt
import Derived.Stop.Joined
import Derived.Test.YtemmepgfngkgmaaGreatDoorRows
namespace Go.Proofs.YtemmepgfngkgmaaGreatDoor
open Go.RowKit Go.ChangeShapes
set_option linter.unusedVariables false
set_option linter.unusedSimpArgs false

theorem err_star : "*" ++ "errors.errorString" = "*errors.errorString" := by decide
theorem err_row (u : TypeId) (h : Tryz.prog.typeName? 3 u = some "*errors.errorString") : u = 284 :=
  typeName_ptr_named (nm := "errors.errorString") (by rw [err_star]; kernel_rfl) (by kernel_rfl) (by decide) u (by rw [err_star]; exact h)
theorem err_struct : ∃ f : Field, Tryz.prog.underlying 286 = some (.struct #[f]) ∧ f.type = 9 ∧ f.offset = 0 :=
  ⟨_, Tryz.underlying286, rfl, rfl⟩
theorem err_iface : ∃ ms, Tryz.prog.underlying 121 = some (.interface ms) := ⟨_, Tryz.underlying121⟩
theorem env_of {W : World} (h : laidMetH Tryz.prog Rows.notationGraphsRow.laid W) : Env W := by
  rw [MakeChecks.laidMetH_plain _ _ _ (by kernel_rfl)] at h
  have h2 := h.tail.tail
  have h4 := h2.tail.tail
  obtain ⟨f, hf1, hf2, hf3⟩ := err_struct
  obtain ⟨ms, hms⟩ := err_iface
  refine ⟨?_, ?_⟩
  · obtain ⟨a, s, h5, _, _, _⟩ := laid_sentinel (P := Tryz.prog) (W := W) (n := "strconv.ErrRange") (nm := "*errors.errorString") (g := 7) (ti := 121) (tp := 284) (te := 286) (ts := 9) h4 (by kernel_rfl) (by kernel_rfl) hms
      err_row (by kernel_rfl) hf1 hf2 hf3 (by kernel_rfl) (by kernel_rfl) (by kernel_rfl)
    exact ⟨_, by simpa using World.var?_cell (show Tryz.prog.globalNamed "strconv.ErrRange" = some 7 by kernel_rfl) h5 0, .inr ⟨_, _, rfl⟩⟩
  · exact Lib.tabIs_of_head (g := 0) (t := 249) (e := 227) (n := 20) (by kernel_rfl) (by kernel_rfl) (by kernel_rfl) (by kernel_rfl) (by kernel_rfl) (by kernel_rfl) h2
theorem und_string : Tryz.prog.underlying 9 = some .string := by kernel_rfl

set_option maxRecDepth 100000 in
set_option maxHeartbeats 2000000 in
theorem l_Graphs (g : G) (gv : Value) (w : World) (hE : Env w) (hg : GrR w gv g) :
    Calls Tryz.prog 3 #[gv] w fun e w' => e = .returned (.bool true) ∧ Below w.heap.size w w' := by
  have HG0 := hid hg
  have HE := hid hE
  obtain ⟨ev, rfl, hEv⟩ := hg
  obtain ⟨a, cap, rfl, _⟩ := hEv
  have hgb := hid (Blk.new w #[.int .i64 g.n, .slice a g.es.length cap] 24)
  have HB0 := hid ((Below.refl w.heap.size w).alloc (Nat.le_refl _) (.cells #[.int .i64 g.n, .slice a g.es.length cap] 24))
  have HG1 := hid (HG0.out.below HB0.out)
  clear hE
  go_enter Tryz.func3, Tryz.ntmps3
  go_upto_region 1 with fail
  generalize w.alloc (.cells #[.int .i64 g.n, .slice a g.es.length cap] 24) = W0 at *
  have c0 : W0.cell? ⟨w.heap.size, 0, none⟩ = some (.int .i64 g.n) := (hgb.out.cell 0).trans rfl
  have c1 : W0.cell? ⟨w.heap.size, 1, none⟩ = some (.slice a g.es.length cap) := (hgb.out.cell 1).trans rfl
  have hgl := hgb.out.lt
  go_wp2_with fail
  refine (r9_FewGraph g _ W0 HG1.out).mono ?_
  rintro e w1 ⟨rfl, hB⟩
  have HB1 := hid (up HB0.out hB)
  have hgb1 := hid (hgb.out.below hB)
  have HG2 := hid (HG1.out.below hB)
  clear c0 c1 hgl hB HG0 HG1 HB0
  dsimp only
  cases decide (g.es.length ≤ 100) with
  | false =>
    go_wp2_with fail
    refine (l_awake w1 (HE.out.below HB1.out)).mono ?_
    rintro e w2 ⟨rfl, hB⟩
    dsimp only
    go_wp2_with fail
    go_ret
    exact ⟨rfl, up HB1.out hB⟩
  | true =>
    have c0 : w1.cell? ⟨w.heap.size, 0, none⟩ = some (.int .i64 g.n) := (hgb1.out.cell 0).trans rfl
    have c1 : w1.cell? ⟨w.heap.size, 1, none⟩ = some (.slice a g.es.length cap) := (hgb1.out.cell 1).trans rfl
    have hgl := hgb1.out.lt
    have HN := hid (fun w h => n_Graph g (.agg #[.int .i64 g.n, .slice a g.es.length cap]) w h)
    have HR := hid (fun w h => r9_Graph g (.agg #[.int .i64 g.n, .slice a g.es.length cap]) w h)
    generalize graphR g = z at *
    obtain ⟨z1, z2⟩ := z
    unfold limV at HN HR
    dsimp only at HN HR
    go_wp2_with fail
    refine (HN.out w1 HG2.out).mono ?_
    rintro e w2 ⟨rfl, hB⟩
    have HB2 := hid (up HB1.out hB)
    have hgb2 := hid (hgb1.out.below hB)
    have HG3 := hid (HG2.out.below hB)
    clear c0 c1 hgl hB HB1 HN
    have c0 : w2.cell? ⟨w.heap.size, 0, none⟩ = some (.int .i64 g.n) := (hgb2.out.cell 0).trans rfl
    have c1 : w2.cell? ⟨w.heap.size, 1, none⟩ = some (.slice a g.es.length cap) := (hgb2.out.cell 1).trans rfl
    have hgl := hgb2.out.lt
    dsimp only
    go_wp2_with fail
    refine (HR.out w2 HG3.out).mono ?_
    rintro e w3 ⟨rfl, hB⟩
    have HB3 := hid (up HB2.out hB)
    clear c0 c1 hgl hB HB2 HR
    have q1 : ((str z2).toList == (str z2).toList) = true := beq_self_eq_true _
    have q2 : (z1 == z1) = true := beq_self_eq_true _
    dsimp only
    go_wp2_with fail
    refine (l_awake w3 (HE.out.below HB3.out)).mono ?_
    rintro e w4 ⟨rfl, hB⟩
    dsimp only
    go_wp2_with fail
    go_ret
    exact ⟨rfl, up HB3.out hB⟩

end Go.Proofs.YtemmepgfngkgmaaGreatDoor
