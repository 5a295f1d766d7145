-- written for this claim by a program of this session (an adapted printer)
import Derived.Test.YtibmidoepeghpaaPCurx0
import Derived.Test.YtibmidoepeghpaaPCurx5
namespace Go.Proofs.Ytibmidoepeghpaa.PCur
open Go.Proofs.Ytibmidoepeghpaa.G
open Go.Proofs.Ytibmidoepeghpaa.PMod (errW errW_none errW_some)
open Go.RowKit Go.Proofs.YtibmidoepeghpaaW.PrintWords Go.Proofs.YtibmidoepeghpaaW.PrintLast Go.Proofs.YtibmidoepeghpaaW.PrintMore
attribute [local go_sem] max2_int min2_int max_two min_two max_three min_three max_four min_four   -- for this text's walks alone
set_option linter.unusedVariables false
set_option linter.unusedSimpArgs false

/-! ### obolref03_Sum: function 18 -/
def obolref03_Sum.f (a0_0 : Bool) (a0_1 : Int) (a0_2 : Int) (a1_0 : Bool) (a1_1 : Int) (a1_2 : Int) : Option (Bool × Int × Int) := if a0_0 = true then (some (a1_0, a1_1, a1_2)) else (if a1_0 = true then (some (a0_0, a0_1, a0_2)) else ((obolref03_Wall.f a0_0 a0_1 a0_2 a1_0 a1_1 a1_2).bind fun t255 => (if t255 = true then (some (true, 0, 0)) else ((obolref03_Slope.f a0_0 a0_1 a0_2 a1_0 a1_1 a1_2).bind fun t256 => ((obolref03_mul.f t256 t256).bind fun t257 => ((obolref01_Add.f 1152921505151057923 a0_1 a1_1).bind fun t258 => ((obolref03_less.f t257 t258).bind fun t259 => ((obolref03_less.f a0_1 t259).bind fun t260 => ((obolref03_mul.f t256 t260).bind fun t261 => ((obolref03_less.f t261 a0_2).bind fun t262 => (some (false, t259, t262))))))))))))
def obolref03_Sum.T9 : Bool × List (List Nat × List Nat) := (true, [([], []), ([], []), ([0, 1], [0, 1]), ([], []), ([3], [3]), ([], []), ([5], [5]), ([4, 6, 2], [4, 6]), ([2, 7, 7], [2, 7]), ([8, 8, 0, 1, 2, 3, 4, 5, 6, 7, 8], [8])])
def obolref03_Sum.B9 : List Nat := [0, 0, 3, 0, 8, 0, 32, 127, 255, 511]
theorem obolref03_Sum.tab9 : rtab .any (opsOf Try.f18 9) = obolref03_Sum.T9 := by kernel_rfl
theorem obolref03_Sum.bits9 : waitsOk obolref03_Sum.T9.2 obolref03_Sum.B9 = true := by kernel_rfl
def obolref03_Sum.T10 : Bool × List (List Nat × List Nat) := (true, [([], []), ([], []), ([], []), ([2], [2]), ([], []), ([3, 4], [3, 4]), ([1, 5, 5], [1, 5]), ([], []), ([7], [7]), ([6, 8, 6], [6, 8]), ([0, 9], [0, 9]), ([10, 9, 0, 1, 2, 3, 4, 5, 6, 7, 8, 9, 10], [10])])
def obolref03_Sum.B10 : List Nat := [0, 0, 0, 4, 0, 28, 62, 0, 128, 510, 1023, 2047]
theorem obolref03_Sum.tab10 : rtab .any (opsOf Try.f18 10) = obolref03_Sum.T10 := by kernel_rfl
theorem obolref03_Sum.bits10 : waitsOk obolref03_Sum.T10.2 obolref03_Sum.B10 = true := by kernel_rfl
set_option maxHeartbeats 8000000 in
set_option maxRecDepth 100000 in
theorem obolref03_Sum.calls (a0_0 : Bool) (a0_1 : Int) (a0_2 : Int) (a1_0 : Bool) (a1_1 : Int) (a1_2 : Int) (r1 : Bool) (r2 : Int) (r3 : Int) (w : World) (h : obolref03_Sum.f a0_0 a0_1 a0_2 a1_0 a1_1 a1_2 = some (r1, r2, r3)) :
    Calls Try.prog 18 #[.agg #[.bool a0_0, .int .u64 a0_1, .int .u64 a0_2], .agg #[.bool a1_0, .int .u64 a1_1, .int .u64 a1_2]] w fun e w' => e = .returned (.agg #[.bool r1, .int .u64 r2, .int .u64 r3]) ∧ Below w.heap.size w w' := by
  have hu24 := Try.underlying24
  have HB := Aside0.mk (Below.refl w.heap.size w)
  have H : (if a0_0 = true then (some (a1_0, a1_1, a1_2)) else (if a1_0 = true then (some (a0_0, a0_1, a0_2)) else ((obolref03_Wall.f a0_0 a0_1 a0_2 a1_0 a1_1 a1_2).bind fun t255 => (if t255 = true then (some (true, 0, 0)) else ((obolref03_Slope.f a0_0 a0_1 a0_2 a1_0 a1_1 a1_2).bind fun t256 => ((obolref03_mul.f t256 t256).bind fun t257 => ((obolref01_Add.f 1152921505151057923 a0_1 a1_1).bind fun t258 => ((obolref03_less.f t257 t258).bind fun t259 => ((obolref03_less.f a0_1 t259).bind fun t260 => ((obolref03_mul.f t256 t260).bind fun t261 => ((obolref03_less.f t261 a0_2).bind fun t262 => (some (false, t259, t262))))))))))))) = some (r1, r2, r3) := h
  clear h
  by_cases c3 : a0_0 = true
  · subst c3
    have H1 : (some (a1_0, a1_1, a1_2)) = some (r1, r2, r3) := by rw [if_pos rfl] at H; exact H
    clear H
    have H := H1
    clear H1
    simp only [Option.some.injEq, Prod.mk.injEq] at H
    obtain ⟨rfl, rfl, rfl⟩ := H
    go_enter Try.func18, Try.ntmps18
    go_wp2_with (first | ((with_reducible refine gate_dst (N := 2) rfl ?_); refine box_event ?hg (N := 2) ?hd (cs := #[.bool true, .int .u64 a0_1, .int .u64 a0_2]) (t := 24) ?hr ?_; (case hd => rfl); (case hg => rfl); (case hr => first | (go_simp; done) | (go_simp; rfl)); intro gb252 hg w4 hbox hb; have n0_ := Aside0.mk (below_step bel_ hb); have n1_ := Aside0.mk (hbox); have n2_ := Aside0.mk ((by rw [hg]; exact (below_size bel_) : w.heap.size ≤ gb252)); have n3_ := Aside0.mk ((by rw [hg]; exact (below_size bel_) : w.heap.size ≤ gb252)); clear HB; have HB := n0_; have BK252 := n1_; have GW252 := n2_; have GE252 := n3_; clear n0_ n1_ n2_ n3_; clear hb hbox hg) | ((with_reducible refine gate_dst (N := 3) rfl ?_); refine box_event ?hg (N := 3) ?hd (cs := #[.bool a1_0, .int .u64 a1_1, .int .u64 a1_2]) (t := 24) ?hr ?_; (case hd => rfl); (case hg => rfl); (case hr => first | (go_simp; done) | (go_simp; rfl)); intro gb253 hg w5 hbox hb; have n0_ := Aside0.mk (blk_below (g := gb252) (o := .cells #[.bool true, .int .u64 a0_1, .int .u64 a0_2] 24 (0, 0)) blk_ hb); have n1_ := Aside0.mk (below_step bel_ hb); have n2_ := Aside0.mk (hbox); have n3_ := Aside0.mk ((by rw [hg]; exact (below_size bel_) : w.heap.size ≤ gb253)); have n4_ := Aside0.mk ((by rw [hg]; exact (below_size bel_) : w.heap.size ≤ gb253)); have n5_ := Aside0.mk ((by rw [hg]; exact Nat.ne_of_lt (blk_lt (g := gb252) (o := .cells #[.bool true, .int .u64 a0_1, .int .u64 a0_2] 24 (0, 0)) blk_) : gb252 ≠ gb253)); have n6_ := Aside0.mk ((by rw [hg]; exact Nat.ne_of_gt (blk_lt (g := gb252) (o := .cells #[.bool true, .int .u64 a0_1, .int .u64 a0_2] 24 (0, 0)) blk_) : gb253 ≠ gb252)); clear BK252; clear HB; have BK252 := n0_; have HB := n1_; have BK253 := n2_; have GW253 := n3_; have GE253 := n4_; have NB252_253 := n5_; have NB253_252 := n6_; clear n0_ n1_ n2_ n3_ n4_ n5_ n6_; clear hb hbox hg) | ((with_reducible refine gate_dst (N := 4) rfl ?_); refine box_event ?hg (N := 4) ?hd (cs := #[.bool false, .int .u64 0, .int .u64 0]) (t := 24) ?hr ?_; (case hd => rfl); (case hg => rfl); (case hr => first | (go_simp; done) | (go_simp; rfl)); intro gb254 hg w6 hbox hb; have n0_ := Aside0.mk (blk_below (g := gb252) (o := .cells #[.bool true, .int .u64 a0_1, .int .u64 a0_2] 24 (0, 0)) blk_ hb); have n1_ := Aside0.mk (blk_below (g := gb253) (o := .cells #[.bool a1_0, .int .u64 a1_1, .int .u64 a1_2] 24 (0, 0)) blk_ hb); have n2_ := Aside0.mk (below_step bel_ hb); have n3_ := Aside0.mk (hbox); have n4_ := Aside0.mk ((by rw [hg]; exact (below_size bel_) : w.heap.size ≤ gb254)); have n5_ := Aside0.mk ((by rw [hg]; exact (below_size bel_) : w.heap.size ≤ gb254)); have n6_ := Aside0.mk ((by rw [hg]; exact Nat.ne_of_lt (blk_lt (g := gb252) (o := .cells #[.bool true, .int .u64 a0_1, .int .u64 a0_2] 24 (0, 0)) blk_) : gb252 ≠ gb254)); have n7_ := Aside0.mk ((by rw [hg]; exact Nat.ne_of_gt (blk_lt (g := gb252) (o := .cells #[.bool true, .int .u64 a0_1, .int .u64 a0_2] 24 (0, 0)) blk_) : gb254 ≠ gb252)); have n8_ := Aside0.mk ((by rw [hg]; exact Nat.ne_of_lt (blk_lt (g := gb253) (o := .cells #[.bool a1_0, .int .u64 a1_1, .int .u64 a1_2] 24 (0, 0)) blk_) : gb253 ≠ gb254)); have n9_ := Aside0.mk ((by rw [hg]; exact Nat.ne_of_gt (blk_lt (g := gb253) (o := .cells #[.bool a1_0, .int .u64 a1_1, .int .u64 a1_2] 24 (0, 0)) blk_) : gb254 ≠ gb253)); clear BK252; clear BK253; clear HB; have BK252 := n0_; have BK253 := n1_; have HB := n2_; have BK254 := n3_; have GW254 := n4_; have GE254 := n5_; have NB252_254 := n6_; have NB254_252 := n7_; have NB253_254 := n8_; have NB254_253 := n9_; clear n0_ n1_ n2_ n3_ n4_ n5_ n6_ n7_ n8_ n9_; clear hb hbox hg; have hnb7 := NB252_253.out; have hnc7 := NB253_252.out; have hnb8 := NB252_254.out; have hnc8 := NB254_252.out; have hcz9_0 : w6.cell? ⟨gb252, 0, none⟩ = some (.bool true) := (blk_cell BK252.out 0).trans rfl; have hcz9_1 : w6.cell? ⟨gb252, 1, none⟩ = some (.int .u64 a0_1) := (blk_cell BK252.out 1).trans rfl; have hcz9_2 : w6.cell? ⟨gb252, 2, none⟩ = some (.int .u64 a0_2) := (blk_cell BK252.out 2).trans rfl; have hfz9_0 := blk_frozen BK252.out 0; have hfz9_1 := blk_frozen BK252.out 1; have hfz9_2 := blk_frozen BK252.out 2; have hnb10 := NB253_254.out; have hnc10 := NB254_253.out; have hcz11_0 : w6.cell? ⟨gb253, 0, none⟩ = some (.bool a1_0) := (blk_cell BK253.out 0).trans rfl; have hcz11_1 : w6.cell? ⟨gb253, 1, none⟩ = some (.int .u64 a1_1) := (blk_cell BK253.out 1).trans rfl; have hcz11_2 : w6.cell? ⟨gb253, 2, none⟩ = some (.int .u64 a1_2) := (blk_cell BK253.out 2).trans rfl; have hfz11_0 := blk_frozen BK253.out 0; have hfz11_1 := blk_frozen BK253.out 1; have hfz11_2 := blk_frozen BK253.out 2; have hcz12_0 : w6.cell? ⟨gb254, 0, none⟩ = some (.bool false) := (blk_cell BK254.out 0).trans rfl; have hcz12_1 : w6.cell? ⟨gb254, 1, none⟩ = some (.int .u64 0) := (blk_cell BK254.out 1).trans rfl; have hcz12_2 : w6.cell? ⟨gb254, 2, none⟩ = some (.int .u64 0) := (blk_cell BK254.out 2).trans rfl; have hfz12_0 := blk_frozen BK254.out 0; have hfz12_1 := blk_frozen BK254.out 1; have hfz12_2 := blk_frozen BK254.out 2))
    refine bodyPost_ret (results_cell_row rfl _ _ gb254 24 #[.bool a1_0, .int .u64 a1_1, .int .u64 a1_2] (0, 0) _ rfl (by (with_reducible repeat (first | refine blk_drewN ?_ _ | refine blk_drew ?_ | refine blk_alloc ?_ _)); refine blk_put (cs := #[.bool a1_0, .int .u64 a1_1, .int .u64 0]) ?_ 2 _ rfl; (with_reducible repeat (first | refine blk_drewN ?_ _ | refine blk_drew ?_ | refine blk_alloc ?_ _)); refine blk_put (cs := #[.bool a1_0, .int .u64 0, .int .u64 0]) ?_ 1 _ rfl; (with_reducible repeat (first | refine blk_drewN ?_ _ | refine blk_drew ?_ | refine blk_alloc ?_ _)); refine blk_put (cs := #[.bool false, .int .u64 0, .int .u64 0]) ?_ 0 _ rfl; exact blk_) Try.underlying24 rfl (by kernel_rfl)) rfl ?_
    exact ⟨by first | rfl | (simp [errW_none, errW_some] <;> rfl) | (simp [*, errW_none, errW_some] <;> rfl), bel_⟩
  · replace c3 := Bool.eq_false_iff.mpr c3
    subst c3
    have H1 : (if a1_0 = true then (some (false, a0_1, a0_2)) else ((obolref03_Wall.f false a0_1 a0_2 a1_0 a1_1 a1_2).bind fun t255 => (if t255 = true then (some (true, 0, 0)) else ((obolref03_Slope.f false a0_1 a0_2 a1_0 a1_1 a1_2).bind fun t256 => ((obolref03_mul.f t256 t256).bind fun t257 => ((obolref01_Add.f 1152921505151057923 a0_1 a1_1).bind fun t258 => ((obolref03_less.f t257 t258).bind fun t259 => ((obolref03_less.f a0_1 t259).bind fun t260 => ((obolref03_mul.f t256 t260).bind fun t261 => ((obolref03_less.f t261 a0_2).bind fun t262 => (some (false, t259, t262)))))))))))) = some (r1, r2, r3) := by rw [if_neg (show ¬ (false = true) by decide)] at H; exact H
    clear H
    have H := H1
    clear H1
    by_cases c13 : a1_0 = true
    · subst c13
      have H1 : (some (false, a0_1, a0_2)) = some (r1, r2, r3) := by rw [if_pos rfl] at H; exact H
      clear H
      have H := H1
      clear H1
      simp only [Option.some.injEq, Prod.mk.injEq] at H
      obtain ⟨rfl, rfl, rfl⟩ := H
      go_enter Try.func18, Try.ntmps18
      go_wp2_with (first | ((with_reducible refine gate_dst (N := 2) rfl ?_); refine box_event ?hg (N := 2) ?hd (cs := #[.bool false, .int .u64 a0_1, .int .u64 a0_2]) (t := 24) ?hr ?_; (case hd => rfl); (case hg => rfl); (case hr => first | (go_simp; done) | (go_simp; rfl)); intro gb252 hg w14 hbox hb; have n0_ := Aside0.mk (below_step bel_ hb); have n1_ := Aside0.mk (hbox); have n2_ := Aside0.mk ((by rw [hg]; exact (below_size bel_) : w.heap.size ≤ gb252)); have n3_ := Aside0.mk ((by rw [hg]; exact (below_size bel_) : w.heap.size ≤ gb252)); clear HB; have HB := n0_; have BK252 := n1_; have GW252 := n2_; have GE252 := n3_; clear n0_ n1_ n2_ n3_; clear hb hbox hg) | ((with_reducible refine gate_dst (N := 3) rfl ?_); refine box_event ?hg (N := 3) ?hd (cs := #[.bool true, .int .u64 a1_1, .int .u64 a1_2]) (t := 24) ?hr ?_; (case hd => rfl); (case hg => rfl); (case hr => first | (go_simp; done) | (go_simp; rfl)); intro gb253 hg w15 hbox hb; have n0_ := Aside0.mk (blk_below (g := gb252) (o := .cells #[.bool false, .int .u64 a0_1, .int .u64 a0_2] 24 (0, 0)) blk_ hb); have n1_ := Aside0.mk (below_step bel_ hb); have n2_ := Aside0.mk (hbox); have n3_ := Aside0.mk ((by rw [hg]; exact (below_size bel_) : w.heap.size ≤ gb253)); have n4_ := Aside0.mk ((by rw [hg]; exact (below_size bel_) : w.heap.size ≤ gb253)); have n5_ := Aside0.mk ((by rw [hg]; exact Nat.ne_of_lt (blk_lt (g := gb252) (o := .cells #[.bool false, .int .u64 a0_1, .int .u64 a0_2] 24 (0, 0)) blk_) : gb252 ≠ gb253)); have n6_ := Aside0.mk ((by rw [hg]; exact Nat.ne_of_gt (blk_lt (g := gb252) (o := .cells #[.bool false, .int .u64 a0_1, .int .u64 a0_2] 24 (0, 0)) blk_) : gb253 ≠ gb252)); clear BK252; clear HB; have BK252 := n0_; have HB := n1_; have BK253 := n2_; have GW253 := n3_; have GE253 := n4_; have NB252_253 := n5_; have NB253_252 := n6_; clear n0_ n1_ n2_ n3_ n4_ n5_ n6_; clear hb hbox hg) | ((with_reducible refine gate_dst (N := 4) rfl ?_); refine box_event ?hg (N := 4) ?hd (cs := #[.bool false, .int .u64 0, .int .u64 0]) (t := 24) ?hr ?_; (case hd => rfl); (case hg => rfl); (case hr => first | (go_simp; done) | (go_simp; rfl)); intro gb254 hg w16 hbox hb; have n0_ := Aside0.mk (blk_below (g := gb252) (o := .cells #[.bool false, .int .u64 a0_1, .int .u64 a0_2] 24 (0, 0)) blk_ hb); have n1_ := Aside0.mk (blk_below (g := gb253) (o := .cells #[.bool true, .int .u64 a1_1, .int .u64 a1_2] 24 (0, 0)) blk_ hb); have n2_ := Aside0.mk (below_step bel_ hb); have n3_ := Aside0.mk (hbox); have n4_ := Aside0.mk ((by rw [hg]; exact (below_size bel_) : w.heap.size ≤ gb254)); have n5_ := Aside0.mk ((by rw [hg]; exact (below_size bel_) : w.heap.size ≤ gb254)); have n6_ := Aside0.mk ((by rw [hg]; exact Nat.ne_of_lt (blk_lt (g := gb252) (o := .cells #[.bool false, .int .u64 a0_1, .int .u64 a0_2] 24 (0, 0)) blk_) : gb252 ≠ gb254)); have n7_ := Aside0.mk ((by rw [hg]; exact Nat.ne_of_gt (blk_lt (g := gb252) (o := .cells #[.bool false, .int .u64 a0_1, .int .u64 a0_2] 24 (0, 0)) blk_) : gb254 ≠ gb252)); have n8_ := Aside0.mk ((by rw [hg]; exact Nat.ne_of_lt (blk_lt (g := gb253) (o := .cells #[.bool true, .int .u64 a1_1, .int .u64 a1_2] 24 (0, 0)) blk_) : gb253 ≠ gb254)); have n9_ := Aside0.mk ((by rw [hg]; exact Nat.ne_of_gt (blk_lt (g := gb253) (o := .cells #[.bool true, .int .u64 a1_1, .int .u64 a1_2] 24 (0, 0)) blk_) : gb254 ≠ gb253)); clear BK252; clear BK253; clear HB; have BK252 := n0_; have BK253 := n1_; have HB := n2_; have BK254 := n3_; have GW254 := n4_; have GE254 := n5_; have NB252_254 := n6_; have NB254_252 := n7_; have NB253_254 := n8_; have NB254_253 := n9_; clear n0_ n1_ n2_ n3_ n4_ n5_ n6_ n7_ n8_ n9_; clear hb hbox hg; have hnb17 := NB252_253.out; have hnc17 := NB253_252.out; have hnb18 := NB252_254.out; have hnc18 := NB254_252.out; have hcz19_0 : w16.cell? ⟨gb252, 0, none⟩ = some (.bool false) := (blk_cell BK252.out 0).trans rfl; have hcz19_1 : w16.cell? ⟨gb252, 1, none⟩ = some (.int .u64 a0_1) := (blk_cell BK252.out 1).trans rfl; have hcz19_2 : w16.cell? ⟨gb252, 2, none⟩ = some (.int .u64 a0_2) := (blk_cell BK252.out 2).trans rfl; have hfz19_0 := blk_frozen BK252.out 0; have hfz19_1 := blk_frozen BK252.out 1; have hfz19_2 := blk_frozen BK252.out 2; have hnb20 := NB253_254.out; have hnc20 := NB254_253.out; have hcz21_0 : w16.cell? ⟨gb253, 0, none⟩ = some (.bool true) := (blk_cell BK253.out 0).trans rfl; have hcz21_1 : w16.cell? ⟨gb253, 1, none⟩ = some (.int .u64 a1_1) := (blk_cell BK253.out 1).trans rfl; have hcz21_2 : w16.cell? ⟨gb253, 2, none⟩ = some (.int .u64 a1_2) := (blk_cell BK253.out 2).trans rfl; have hfz21_0 := blk_frozen BK253.out 0; have hfz21_1 := blk_frozen BK253.out 1; have hfz21_2 := blk_frozen BK253.out 2; have hcz22_0 : w16.cell? ⟨gb254, 0, none⟩ = some (.bool false) := (blk_cell BK254.out 0).trans rfl; have hcz22_1 : w16.cell? ⟨gb254, 1, none⟩ = some (.int .u64 0) := (blk_cell BK254.out 1).trans rfl; have hcz22_2 : w16.cell? ⟨gb254, 2, none⟩ = some (.int .u64 0) := (blk_cell BK254.out 2).trans rfl; have hfz22_0 := blk_frozen BK254.out 0; have hfz22_1 := blk_frozen BK254.out 1; have hfz22_2 := blk_frozen BK254.out 2))
      refine bodyPost_ret (results_cell_row rfl _ _ gb254 24 #[.bool false, .int .u64 a0_1, .int .u64 a0_2] (0, 0) _ rfl (by (with_reducible repeat (first | refine blk_drewN ?_ _ | refine blk_drew ?_ | refine blk_alloc ?_ _)); refine blk_put (cs := #[.bool false, .int .u64 a0_1, .int .u64 0]) ?_ 2 _ rfl; (with_reducible repeat (first | refine blk_drewN ?_ _ | refine blk_drew ?_ | refine blk_alloc ?_ _)); refine blk_put (cs := #[.bool false, .int .u64 0, .int .u64 0]) ?_ 1 _ rfl; (with_reducible repeat (first | refine blk_drewN ?_ _ | refine blk_drew ?_ | refine blk_alloc ?_ _)); refine blk_put (cs := #[.bool false, .int .u64 0, .int .u64 0]) ?_ 0 _ rfl; exact blk_) Try.underlying24 rfl (by kernel_rfl)) rfl ?_
      exact ⟨by first | rfl | (simp [errW_none, errW_some] <;> rfl) | (simp [*, errW_none, errW_some] <;> rfl), bel_⟩
    · replace c13 := Bool.eq_false_iff.mpr c13
      subst c13
      have H1 : ((obolref03_Wall.f false a0_1 a0_2 false a1_1 a1_2).bind fun t255 => (if t255 = true then (some (true, 0, 0)) else ((obolref03_Slope.f false a0_1 a0_2 false a1_1 a1_2).bind fun t256 => ((obolref03_mul.f t256 t256).bind fun t257 => ((obolref01_Add.f 1152921505151057923 a0_1 a1_1).bind fun t258 => ((obolref03_less.f t257 t258).bind fun t259 => ((obolref03_less.f a0_1 t259).bind fun t260 => ((obolref03_mul.f t256 t260).bind fun t261 => ((obolref03_less.f t261 a0_2).bind fun t262 => (some (false, t259, t262))))))))))) = some (r1, r2, r3) := by rw [if_neg (show ¬ (false = true) by decide)] at H; exact H
      clear H
      have H := H1
      clear H1
      replace H := Option.bind_eq_some_iff.mp H
      obtain ⟨t255, A230, H⟩ := H
      (try dsimp only at H)
      have A23 := Aside0.mk A230
      clear A230
      by_cases c24 : t255 = true
      · subst c24
        have H1 : (some (true, 0, 0)) = some (r1, r2, r3) := by rw [if_pos rfl] at H; exact H
        clear H
        have H := H1
        clear H1
        simp only [Option.some.injEq, Prod.mk.injEq] at H
        obtain ⟨rfl, rfl, rfl⟩ := H
        go_enter Try.func18, Try.ntmps18
        go_wp2_with (first | ((with_reducible refine gate_dst (N := 2) rfl ?_); refine box_event ?hg (N := 2) ?hd (cs := #[.bool false, .int .u64 a0_1, .int .u64 a0_2]) (t := 24) ?hr ?_; (case hd => rfl); (case hg => rfl); (case hr => first | (go_simp; done) | (go_simp; rfl)); intro gb252 hg w25 hbox hb; have n0_ := Aside0.mk (below_step bel_ hb); have n1_ := Aside0.mk (hbox); have n2_ := Aside0.mk ((by rw [hg]; exact (below_size bel_) : w.heap.size ≤ gb252)); have n3_ := Aside0.mk ((by rw [hg]; exact (below_size bel_) : w.heap.size ≤ gb252)); clear HB; have HB := n0_; have BK252 := n1_; have GW252 := n2_; have GE252 := n3_; clear n0_ n1_ n2_ n3_; clear hb hbox hg) | ((with_reducible refine gate_dst (N := 3) rfl ?_); refine box_event ?hg (N := 3) ?hd (cs := #[.bool false, .int .u64 a1_1, .int .u64 a1_2]) (t := 24) ?hr ?_; (case hd => rfl); (case hg => rfl); (case hr => first | (go_simp; done) | (go_simp; rfl)); intro gb253 hg w26 hbox hb; have n0_ := Aside0.mk (blk_below (g := gb252) (o := .cells #[.bool false, .int .u64 a0_1, .int .u64 a0_2] 24 (0, 0)) blk_ hb); have n1_ := Aside0.mk (below_step bel_ hb); have n2_ := Aside0.mk (hbox); have n3_ := Aside0.mk ((by rw [hg]; exact (below_size bel_) : w.heap.size ≤ gb253)); have n4_ := Aside0.mk ((by rw [hg]; exact (below_size bel_) : w.heap.size ≤ gb253)); have n5_ := Aside0.mk ((by rw [hg]; exact Nat.ne_of_lt (blk_lt (g := gb252) (o := .cells #[.bool false, .int .u64 a0_1, .int .u64 a0_2] 24 (0, 0)) blk_) : gb252 ≠ gb253)); have n6_ := Aside0.mk ((by rw [hg]; exact Nat.ne_of_gt (blk_lt (g := gb252) (o := .cells #[.bool false, .int .u64 a0_1, .int .u64 a0_2] 24 (0, 0)) blk_) : gb253 ≠ gb252)); clear BK252; clear HB; have BK252 := n0_; have HB := n1_; have BK253 := n2_; have GW253 := n3_; have GE253 := n4_; have NB252_253 := n5_; have NB253_252 := n6_; clear n0_ n1_ n2_ n3_ n4_ n5_ n6_; clear hb hbox hg) | ((with_reducible refine gate_dst (N := 4) rfl ?_); refine box_event ?hg (N := 4) ?hd (cs := #[.bool false, .int .u64 0, .int .u64 0]) (t := 24) ?hr ?_; (case hd => rfl); (case hg => rfl); (case hr => first | (go_simp; done) | (go_simp; rfl)); intro gb254 hg w27 hbox hb; have n0_ := Aside0.mk (blk_below (g := gb252) (o := .cells #[.bool false, .int .u64 a0_1, .int .u64 a0_2] 24 (0, 0)) blk_ hb); have n1_ := Aside0.mk (blk_below (g := gb253) (o := .cells #[.bool false, .int .u64 a1_1, .int .u64 a1_2] 24 (0, 0)) blk_ hb); have n2_ := Aside0.mk (below_step bel_ hb); have n3_ := Aside0.mk (hbox); have n4_ := Aside0.mk ((by rw [hg]; exact (below_size bel_) : w.heap.size ≤ gb254)); have n5_ := Aside0.mk ((by rw [hg]; exact (below_size bel_) : w.heap.size ≤ gb254)); have n6_ := Aside0.mk ((by rw [hg]; exact Nat.ne_of_lt (blk_lt (g := gb252) (o := .cells #[.bool false, .int .u64 a0_1, .int .u64 a0_2] 24 (0, 0)) blk_) : gb252 ≠ gb254)); have n7_ := Aside0.mk ((by rw [hg]; exact Nat.ne_of_gt (blk_lt (g := gb252) (o := .cells #[.bool false, .int .u64 a0_1, .int .u64 a0_2] 24 (0, 0)) blk_) : gb254 ≠ gb252)); have n8_ := Aside0.mk ((by rw [hg]; exact Nat.ne_of_lt (blk_lt (g := gb253) (o := .cells #[.bool false, .int .u64 a1_1, .int .u64 a1_2] 24 (0, 0)) blk_) : gb253 ≠ gb254)); have n9_ := Aside0.mk ((by rw [hg]; exact Nat.ne_of_gt (blk_lt (g := gb253) (o := .cells #[.bool false, .int .u64 a1_1, .int .u64 a1_2] 24 (0, 0)) blk_) : gb254 ≠ gb253)); clear BK252; clear BK253; clear HB; have BK252 := n0_; have BK253 := n1_; have HB := n2_; have BK254 := n3_; have GW254 := n4_; have GE254 := n5_; have NB252_254 := n6_; have NB254_252 := n7_; have NB253_254 := n8_; have NB254_253 := n9_; clear n0_ n1_ n2_ n3_ n4_ n5_ n6_ n7_ n8_ n9_; clear hb hbox hg; have hnb28 := NB252_253.out; have hnc28 := NB253_252.out; have hnb29 := NB252_254.out; have hnc29 := NB254_252.out; have hcz30_0 : w27.cell? ⟨gb252, 0, none⟩ = some (.bool false) := (blk_cell BK252.out 0).trans rfl; have hcz30_1 : w27.cell? ⟨gb252, 1, none⟩ = some (.int .u64 a0_1) := (blk_cell BK252.out 1).trans rfl; have hcz30_2 : w27.cell? ⟨gb252, 2, none⟩ = some (.int .u64 a0_2) := (blk_cell BK252.out 2).trans rfl; have hfz30_0 := blk_frozen BK252.out 0; have hfz30_1 := blk_frozen BK252.out 1; have hfz30_2 := blk_frozen BK252.out 2; have hnb31 := NB253_254.out; have hnc31 := NB254_253.out; have hcz32_0 : w27.cell? ⟨gb253, 0, none⟩ = some (.bool false) := (blk_cell BK253.out 0).trans rfl; have hcz32_1 : w27.cell? ⟨gb253, 1, none⟩ = some (.int .u64 a1_1) := (blk_cell BK253.out 1).trans rfl; have hcz32_2 : w27.cell? ⟨gb253, 2, none⟩ = some (.int .u64 a1_2) := (blk_cell BK253.out 2).trans rfl; have hfz32_0 := blk_frozen BK253.out 0; have hfz32_1 := blk_frozen BK253.out 1; have hfz32_2 := blk_frozen BK253.out 2) | ((with_reducible refine gate_callee (f := 20) rfl ?_); refine goesL_ (some 16) rfl rfl Try.func20 (by kernel_rfl) rfl #[.agg #[.bool false, .int .u64 a0_1, .int .u64 a0_2], .agg #[.bool false, .int .u64 a1_1, .int .u64 a1_2]] rfl lna_ ?_; (with_reducible refine (obolref03_Wall.calls false a0_1 a0_2 false a1_1 a1_2 true _ A23.out).mono ?_); rintro e w33 ⟨rfl, hb⟩; refine ⟨_, rfl, ?_⟩; have n0_ := Aside0.mk (blk_below (g := gb252) (o := .cells #[.bool false, .int .u64 a0_1, .int .u64 a0_2] 24 (0, 0)) blk_ hb); have n1_ := Aside0.mk (blk_below (g := gb253) (o := .cells #[.bool false, .int .u64 a1_1, .int .u64 a1_2] 24 (0, 0)) blk_ hb); have n2_ := Aside0.mk (blk_below (g := gb254) (o := .cells #[.bool false, .int .u64 0, .int .u64 0] 24 (0, 0)) blk_ hb); have n3_ := Aside0.mk (below_step bel_ hb); clear BK252; clear BK253; clear BK254; clear HB; have BK252 := n0_; have BK253 := n1_; have BK254 := n2_; have HB := n3_; clear n0_ n1_ n2_ n3_; (try clear hb); (try clear hb2); (try clear hk); (try clear hi); have hcz34_0 : w33.cell? ⟨gb254, 0, none⟩ = some (.bool false) := (blk_cell BK254.out 0).trans rfl; have hcz34_1 : w33.cell? ⟨gb254, 1, none⟩ = some (.int .u64 0) := (blk_cell BK254.out 1).trans rfl; have hcz34_2 : w33.cell? ⟨gb254, 2, none⟩ = some (.int .u64 0) := (blk_cell BK254.out 2).trans rfl; have hfz34_0 := blk_frozen BK254.out 0; have hfz34_1 := blk_frozen BK254.out 1; have hfz34_2 := blk_frozen BK254.out 2))
        refine bodyPost_ret (results_cell_row rfl _ _ gb254 24 #[.bool true, .int .u64 0, .int .u64 0] (0, 0) _ rfl (by (with_reducible repeat (first | refine blk_drewN ?_ _ | refine blk_drew ?_ | refine blk_alloc ?_ _)); refine blk_put (cs := #[.bool true, .int .u64 0, .int .u64 0]) ?_ 2 _ rfl; (with_reducible repeat (first | refine blk_drewN ?_ _ | refine blk_drew ?_ | refine blk_alloc ?_ _)); refine blk_put (cs := #[.bool true, .int .u64 0, .int .u64 0]) ?_ 1 _ rfl; (with_reducible repeat (first | refine blk_drewN ?_ _ | refine blk_drew ?_ | refine blk_alloc ?_ _)); refine blk_put (cs := #[.bool false, .int .u64 0, .int .u64 0]) ?_ 0 _ rfl; exact blk_) Try.underlying24 rfl (by kernel_rfl)) rfl ?_
        exact ⟨by first | rfl | (simp [errW_none, errW_some] <;> rfl) | (simp [*, errW_none, errW_some] <;> rfl), bel_⟩
      · replace c24 := Bool.eq_false_iff.mpr c24
        subst c24
        have H1 : ((obolref03_Slope.f false a0_1 a0_2 false a1_1 a1_2).bind fun t256 => ((obolref03_mul.f t256 t256).bind fun t257 => ((obolref01_Add.f 1152921505151057923 a0_1 a1_1).bind fun t258 => ((obolref03_less.f t257 t258).bind fun t259 => ((obolref03_less.f a0_1 t259).bind fun t260 => ((obolref03_mul.f t256 t260).bind fun t261 => ((obolref03_less.f t261 a0_2).bind fun t262 => (some (false, t259, t262))))))))) = some (r1, r2, r3) := by rw [if_neg (show ¬ (false = true) by decide)] at H; exact H
        clear H
        have H := H1
        clear H1
        replace H := Option.bind_eq_some_iff.mp H
        obtain ⟨t256, A350, H⟩ := H
        (try dsimp only at H)
        have A35 := Aside0.mk A350
        clear A350
        replace H := Option.bind_eq_some_iff.mp H
        obtain ⟨t257, A360, H⟩ := H
        (try dsimp only at H)
        have A36 := Aside0.mk A360
        clear A360
        replace H := Option.bind_eq_some_iff.mp H
        obtain ⟨t258, A370, H⟩ := H
        (try dsimp only at H)
        have A37 := Aside0.mk A370
        clear A370
        replace H := Option.bind_eq_some_iff.mp H
        obtain ⟨t259, A380, H⟩ := H
        (try dsimp only at H)
        have A38 := Aside0.mk A380
        clear A380
        replace H := Option.bind_eq_some_iff.mp H
        obtain ⟨t260, A390, H⟩ := H
        (try dsimp only at H)
        have A39 := Aside0.mk A390
        clear A390
        replace H := Option.bind_eq_some_iff.mp H
        obtain ⟨t261, A400, H⟩ := H
        (try dsimp only at H)
        have A40 := Aside0.mk A400
        clear A400
        replace H := Option.bind_eq_some_iff.mp H
        obtain ⟨t262, A410, H⟩ := H
        (try dsimp only at H)
        have A41 := Aside0.mk A410
        clear A410
        simp only [Option.some.injEq, Prod.mk.injEq] at H
        obtain ⟨rfl, rfl, rfl⟩ := H
        go_enter Try.func18, Try.ntmps18
        try go_wp2_with (first | ((with_reducible refine gate_dst (N := 2) rfl ?_); refine box_event ?hg (N := 2) ?hd (cs := #[.bool false, .int .u64 a0_1, .int .u64 a0_2]) (t := 24) ?hr ?_; (case hd => rfl); (case hg => rfl); (case hr => first | (go_simp; done) | (go_simp; rfl)); intro gb252 hg w42 hbox hb; have n0_ := Aside0.mk (below_step bel_ hb); have n1_ := Aside0.mk (hbox); have n2_ := Aside0.mk ((by rw [hg]; exact (below_size bel_) : w.heap.size ≤ gb252)); have n3_ := Aside0.mk ((by rw [hg]; exact (below_size bel_) : w.heap.size ≤ gb252)); clear HB; have HB := n0_; have BK252 := n1_; have GW252 := n2_; have GE252 := n3_; clear n0_ n1_ n2_ n3_; clear hb hbox hg) | ((with_reducible refine gate_dst (N := 3) rfl ?_); refine box_event ?hg (N := 3) ?hd (cs := #[.bool false, .int .u64 a1_1, .int .u64 a1_2]) (t := 24) ?hr ?_; (case hd => rfl); (case hg => rfl); (case hr => first | (go_simp; done) | (go_simp; rfl)); intro gb253 hg w43 hbox hb; have n0_ := Aside0.mk (blk_below (g := gb252) (o := .cells #[.bool false, .int .u64 a0_1, .int .u64 a0_2] 24 (0, 0)) blk_ hb); have n1_ := Aside0.mk (below_step bel_ hb); have n2_ := Aside0.mk (hbox); have n3_ := Aside0.mk ((by rw [hg]; exact (below_size bel_) : w.heap.size ≤ gb253)); have n4_ := Aside0.mk ((by rw [hg]; exact (below_size bel_) : w.heap.size ≤ gb253)); have n5_ := Aside0.mk ((by rw [hg]; exact Nat.ne_of_lt (blk_lt (g := gb252) (o := .cells #[.bool false, .int .u64 a0_1, .int .u64 a0_2] 24 (0, 0)) blk_) : gb252 ≠ gb253)); have n6_ := Aside0.mk ((by rw [hg]; exact Nat.ne_of_gt (blk_lt (g := gb252) (o := .cells #[.bool false, .int .u64 a0_1, .int .u64 a0_2] 24 (0, 0)) blk_) : gb253 ≠ gb252)); clear BK252; clear HB; have BK252 := n0_; have HB := n1_; have BK253 := n2_; have GW253 := n3_; have GE253 := n4_; have NB252_253 := n5_; have NB253_252 := n6_; clear n0_ n1_ n2_ n3_ n4_ n5_ n6_; clear hb hbox hg) | ((with_reducible refine gate_dst (N := 4) rfl ?_); refine box_event ?hg (N := 4) ?hd (cs := #[.bool false, .int .u64 0, .int .u64 0]) (t := 24) ?hr ?_; (case hd => rfl); (case hg => rfl); (case hr => first | (go_simp; done) | (go_simp; rfl)); intro gb254 hg w44 hbox hb; have n0_ := Aside0.mk (blk_below (g := gb252) (o := .cells #[.bool false, .int .u64 a0_1, .int .u64 a0_2] 24 (0, 0)) blk_ hb); have n1_ := Aside0.mk (blk_below (g := gb253) (o := .cells #[.bool false, .int .u64 a1_1, .int .u64 a1_2] 24 (0, 0)) blk_ hb); have n2_ := Aside0.mk (below_step bel_ hb); have n3_ := Aside0.mk (hbox); have n4_ := Aside0.mk ((by rw [hg]; exact (below_size bel_) : w.heap.size ≤ gb254)); have n5_ := Aside0.mk ((by rw [hg]; exact (below_size bel_) : w.heap.size ≤ gb254)); have n6_ := Aside0.mk ((by rw [hg]; exact Nat.ne_of_lt (blk_lt (g := gb252) (o := .cells #[.bool false, .int .u64 a0_1, .int .u64 a0_2] 24 (0, 0)) blk_) : gb252 ≠ gb254)); have n7_ := Aside0.mk ((by rw [hg]; exact Nat.ne_of_gt (blk_lt (g := gb252) (o := .cells #[.bool false, .int .u64 a0_1, .int .u64 a0_2] 24 (0, 0)) blk_) : gb254 ≠ gb252)); have n8_ := Aside0.mk ((by rw [hg]; exact Nat.ne_of_lt (blk_lt (g := gb253) (o := .cells #[.bool false, .int .u64 a1_1, .int .u64 a1_2] 24 (0, 0)) blk_) : gb253 ≠ gb254)); have n9_ := Aside0.mk ((by rw [hg]; exact Nat.ne_of_gt (blk_lt (g := gb253) (o := .cells #[.bool false, .int .u64 a1_1, .int .u64 a1_2] 24 (0, 0)) blk_) : gb254 ≠ gb253)); clear BK252; clear BK253; clear HB; have BK252 := n0_; have BK253 := n1_; have HB := n2_; have BK254 := n3_; have GW254 := n4_; have GE254 := n5_; have NB252_254 := n6_; have NB254_252 := n7_; have NB253_254 := n8_; have NB254_253 := n9_; clear n0_ n1_ n2_ n3_ n4_ n5_ n6_ n7_ n8_ n9_; clear hb hbox hg; have hnb45 := NB252_253.out; have hnc45 := NB253_252.out; have hnb46 := NB252_254.out; have hnc46 := NB254_252.out; have hcz47_0 : w44.cell? ⟨gb252, 0, none⟩ = some (.bool false) := (blk_cell BK252.out 0).trans rfl; have hcz47_1 : w44.cell? ⟨gb252, 1, none⟩ = some (.int .u64 a0_1) := (blk_cell BK252.out 1).trans rfl; have hcz47_2 : w44.cell? ⟨gb252, 2, none⟩ = some (.int .u64 a0_2) := (blk_cell BK252.out 2).trans rfl; have hfz47_0 := blk_frozen BK252.out 0; have hfz47_1 := blk_frozen BK252.out 1; have hfz47_2 := blk_frozen BK252.out 2; have hnb48 := NB253_254.out; have hnc48 := NB254_253.out; have hcz49_0 : w44.cell? ⟨gb253, 0, none⟩ = some (.bool false) := (blk_cell BK253.out 0).trans rfl; have hcz49_1 : w44.cell? ⟨gb253, 1, none⟩ = some (.int .u64 a1_1) := (blk_cell BK253.out 1).trans rfl; have hcz49_2 : w44.cell? ⟨gb253, 2, none⟩ = some (.int .u64 a1_2) := (blk_cell BK253.out 2).trans rfl; have hfz49_0 := blk_frozen BK253.out 0; have hfz49_1 := blk_frozen BK253.out 1; have hfz49_2 := blk_frozen BK253.out 2) | ((with_reducible refine gate_callee (f := 20) rfl ?_); refine goesL_ (some 16) rfl rfl Try.func20 (by kernel_rfl) rfl #[.agg #[.bool false, .int .u64 a0_1, .int .u64 a0_2], .agg #[.bool false, .int .u64 a1_1, .int .u64 a1_2]] rfl lna_ ?_; (with_reducible refine (obolref03_Wall.calls false a0_1 a0_2 false a1_1 a1_2 false _ A23.out).mono ?_); rintro e w50 ⟨rfl, hb⟩; refine ⟨_, rfl, ?_⟩; have n0_ := Aside0.mk (blk_below (g := gb252) (o := .cells #[.bool false, .int .u64 a0_1, .int .u64 a0_2] 24 (0, 0)) blk_ hb); have n1_ := Aside0.mk (blk_below (g := gb253) (o := .cells #[.bool false, .int .u64 a1_1, .int .u64 a1_2] 24 (0, 0)) blk_ hb); have n2_ := Aside0.mk (blk_below (g := gb254) (o := .cells #[.bool false, .int .u64 0, .int .u64 0] 24 (0, 0)) blk_ hb); have n3_ := Aside0.mk (below_step bel_ hb); clear BK252; clear BK253; clear BK254; clear HB; have BK252 := n0_; have BK253 := n1_; have BK254 := n2_; have HB := n3_; clear n0_ n1_ n2_ n3_; (try clear hb); (try clear hb2); (try clear hk); (try clear hi); have hcz51_0 : w50.cell? ⟨gb252, 0, none⟩ = some (.bool false) := (blk_cell BK252.out 0).trans rfl; have hcz51_1 : w50.cell? ⟨gb252, 1, none⟩ = some (.int .u64 a0_1) := (blk_cell BK252.out 1).trans rfl; have hcz51_2 : w50.cell? ⟨gb252, 2, none⟩ = some (.int .u64 a0_2) := (blk_cell BK252.out 2).trans rfl; have hfz51_0 := blk_frozen BK252.out 0; have hfz51_1 := blk_frozen BK252.out 1; have hfz51_2 := blk_frozen BK252.out 2; have hcz52_0 : w50.cell? ⟨gb253, 0, none⟩ = some (.bool false) := (blk_cell BK253.out 0).trans rfl; have hcz52_1 : w50.cell? ⟨gb253, 1, none⟩ = some (.int .u64 a1_1) := (blk_cell BK253.out 1).trans rfl; have hcz52_2 : w50.cell? ⟨gb253, 2, none⟩ = some (.int .u64 a1_2) := (blk_cell BK253.out 2).trans rfl; have hfz52_0 := blk_frozen BK253.out 0; have hfz52_1 := blk_frozen BK253.out 1; have hfz52_2 := blk_frozen BK253.out 2) | ((with_reducible refine gate_callee (f := 43) rfl ?_); refine goesL_ (some 21) rfl rfl Try.func43 (by kernel_rfl) rfl #[.agg #[.bool false, .int .u64 a0_1, .int .u64 a0_2], .agg #[.bool false, .int .u64 a1_1, .int .u64 a1_2]] rfl lna_ ?_; (with_reducible refine (obolref03_Slope.calls false a0_1 a0_2 false a1_1 a1_2 t256 _ A35.out).mono ?_); rintro e w53 ⟨rfl, hb⟩; refine ⟨_, rfl, ?_⟩; have n0_ := Aside0.mk (blk_below (g := gb252) (o := .cells #[.bool false, .int .u64 a0_1, .int .u64 a0_2] 24 (0, 0)) blk_ hb); have n1_ := Aside0.mk (blk_below (g := gb253) (o := .cells #[.bool false, .int .u64 a1_1, .int .u64 a1_2] 24 (0, 0)) blk_ hb); have n2_ := Aside0.mk (blk_below (g := gb254) (o := .cells #[.bool false, .int .u64 0, .int .u64 0] 24 (0, 0)) blk_ hb); have n3_ := Aside0.mk (below_step bel_ hb); clear BK252; clear BK253; clear BK254; clear HB; have BK252 := n0_; have BK253 := n1_; have BK254 := n2_; have HB := n3_; clear n0_ n1_ n2_ n3_; (try clear hb); (try clear hb2); (try clear hk); (try clear hi)))
        (repeat rw [World.drewN_drewN])
        (try (rw [drewN_self w53]; generalize hq_ : World.drewN w53 _ = w53; have n0_ : Aside0 (w53.heap[gb252]? = some (.cells #[.bool false, .int .u64 a0_1, .int .u64 a0_2] 24 (0, 0))) := ⟨by rw [← hq_]; exact blk_⟩; have n1_ : Aside0 (w53.heap[gb253]? = some (.cells #[.bool false, .int .u64 a1_1, .int .u64 a1_2] 24 (0, 0))) := ⟨by rw [← hq_]; exact blk_⟩; have n2_ : Aside0 (w53.heap[gb254]? = some (.cells #[.bool false, .int .u64 0, .int .u64 0] 24 (0, 0))) := ⟨by rw [← hq_]; exact blk_⟩; have n3_ : Aside0 (Below w.heap.size w w53) := ⟨by rw [← hq_]; exact bel_⟩; clear BK252 BK253 BK254 HB hq_; have BK252 := n0_; have BK253 := n1_; have BK254 := n2_; have HB := n3_; clear n0_ n1_ n2_ n3_))
        have n0_ := Aside0.mk (blk_drew BK252.out)
        have n1_ := Aside0.mk (blk_drew BK253.out)
        have n2_ := Aside0.mk (blk_drew BK254.out)
        have n3_ := Aside0.mk (below_drew1 HB.out)
        clear BK252
        clear BK253
        clear BK254
        clear HB
        have BK252 := n0_
        have BK253 := n1_
        have BK254 := n2_
        have HB := n3_
        clear n0_ n1_ n2_ n3_
        refine start_ (n := 10) (S := fun w' => w'.cell? ⟨gb252, 0, none⟩ = some (.bool false) ∧ w'.cell? ⟨gb252, 1, none⟩ = some (.int .u64 a0_1) ∧ w'.cell? ⟨gb252, 2, none⟩ = some (.int .u64 a0_2) ∧ w'.cell? ⟨gb253, 0, none⟩ = some (.bool false) ∧ w'.cell? ⟨gb253, 1, none⟩ = some (.int .u64 a1_1) ∧ w'.cell? ⟨gb253, 2, none⟩ = some (.int .u64 a1_2)) (ds := []) #[false, false, false, false, false, false, false, false, false, false] (by kernel_rfl) rfl rfl ⟨(blk_cell BK252.out 0).trans rfl, (blk_cell BK252.out 1).trans rfl, (blk_cell BK252.out 2).trans rfl, (blk_cell BK253.out 0).trans rfl, (blk_cell BK253.out 1).trans rfl, (blk_cell BK253.out 2).trans rfl⟩ (fun hHeld => ?_); refine with_tabW obolref03_Sum.tab9 obolref03_Sum.bits9 (fun HT_ HW_ => ?_)
        generalize w53.drew = w54 at BK252 BK253 BK254 HB hHeld ⊢
        refine pure_ (i := 0) (N := some 22) (v := ?_) (a' := ?_) #[true, false, false, false, false, false, false, false, false, false] rfl rfl (any_of HT_.out (by kernel_rfl)) (fun _ _ _ h => h) (Or.inl ⟨by rfl, ?_⟩) ?_ ?_
        rotate_left
        · intro w'
          go_simp
          with_reducible rfl
        rotate_left
        · simp only [Act.put, List.setIfInBounds_toArray, List.set_cons_zero, List.set_cons_succ, i64_w, i32_w]
          rfl
        refine pure_ (i := 1) (N := some 23) (v := ?_) (a' := ?_) #[true, true, false, false, false, false, false, false, false, false] rfl rfl (any_of HT_.out (by kernel_rfl)) (fun _ _ _ h => h) (Or.inl ⟨by rfl, ?_⟩) ?_ ?_
        rotate_left
        · intro w'
          go_simp
          with_reducible rfl
        rotate_left
        · simp only [Act.put, List.setIfInBounds_toArray, List.set_cons_zero, List.set_cons_succ, i64_w, i32_w]
          rfl
        refine pure_ (i := 3) (N := some 25) (v := ?_) (a' := ?_) #[true, true, false, true, false, false, false, false, false, false] rfl rfl (any_of HT_.out (by kernel_rfl)) (fun _ _ _ h => h) (Or.inl ⟨by rfl, ?_⟩) ?_ ?_
        rotate_left
        · intro w'
          go_simp
          with_reducible rfl
        rotate_left
        · simp only [Act.put, List.setIfInBounds_toArray, List.set_cons_zero, List.set_cons_succ, i64_w, i32_w]
          rfl
        refine pure_ (i := 5) (N := some 27) (v := ?_) (a' := ?_) #[true, true, false, true, false, true, false, false, false, false] rfl rfl (any_of HT_.out (by kernel_rfl)) (fun _ _ _ h => h) (Or.inl ⟨by rfl, ?_⟩) ?_ ?_
        rotate_left
        · intro w'
          go_simp
          with_reducible rfl
        rotate_left
        · simp only [Act.put, List.setIfInBounds_toArray, List.set_cons_zero, List.set_cons_succ, i64_w, i32_w]
          rfl
        refine take_ (i := 4) (N := some 26) (v := ?_) (a' := ?_) #[true, true, false, true, true, true, false, false, false, false] rfl rfl (take_ofW HT_.out HW_.out (by kernel_rfl)) (fun _ _ _ h => h) (Or.inl ⟨by rfl, ?_⟩) hHeld ?_ ?_
        rotate_left
        · rintro w' ⟨s0, s1, s2, s3, s4, s5⟩
          go_simp
          with_reducible rfl
        rotate_left
        · simp only [Act.put, List.setIfInBounds_toArray, List.set_cons_zero, List.set_cons_succ, i64_w, i32_w]
          rfl
        refine take_ (i := 6) (N := some 28) (v := ?_) (a' := ?_) #[true, true, false, true, true, true, true, false, false, false] rfl rfl (take_ofW HT_.out HW_.out (by kernel_rfl)) (fun _ _ _ h => h) (Or.inl ⟨by rfl, ?_⟩) hHeld ?_ ?_
        rotate_left
        · rintro w' ⟨s0, s1, s2, s3, s4, s5⟩
          go_simp
          with_reducible rfl
        rotate_left
        · simp only [Act.put, List.setIfInBounds_toArray, List.set_cons_zero, List.set_cons_succ, i64_w, i32_w]
          rfl
        refine one_ (i := 2) (N := some 24) #[true, true, true, true, true, true, true, false, false, false] rfl rfl (one_of HT_.out (by kernel_rfl)) (by decide) (fun K hK => ?_)
        refine goes_ Try.func45 (by kernel_rfl) rfl #[.int .u64 t256, .int .u64 t256] (by rfl) rfl rfl lna_ ?_
        with_reducible refine (obolref03_mul.calls t256 t256 t257 _ A36.out).mono ?_
        rintro e w' ⟨rfl, ⟨nd, rfl⟩⟩
        refine ⟨_, rfl, ?_⟩
        refine hK.out _ _ ⟨(blk_cell BK252.out 0).trans rfl, (blk_cell BK252.out 1).trans rfl, (blk_cell BK252.out 2).trans rfl, (blk_cell BK253.out 0).trans rfl, (blk_cell BK253.out 1).trans rfl, (blk_cell BK253.out 2).trans rfl⟩ (fun hHeld => ?_)
        clear hK K
        refine norm_ (a' := ?_) ?_ ?_
        rotate_left
        · show Act.put _ (some 24) _ = _
          simp only [Act.put, List.setIfInBounds_toArray, List.set_cons_zero, List.set_cons_succ, i64_w, i32_w]
          rfl
        refine one_ (i := 7) (N := some 29) #[true, true, true, true, true, true, true, true, false, false] rfl rfl (one_of HT_.out (by kernel_rfl)) (by decide) (fun K hK => ?_)
        refine goes_ Try.func46 (by kernel_rfl) rfl #[.int .u64 1152921505151057923, .int .u64 a0_1, .int .u64 a1_1] (by rfl) rfl rfl lna_ ?_
        with_reducible refine (obolref01_Add.calls 1152921505151057923 a0_1 a1_1 t258 _ A37.out).mono ?_
        rintro e w' ⟨rfl, ⟨nd, rfl⟩⟩
        refine ⟨_, rfl, ?_⟩
        refine hK.out _ _ ⟨(blk_cell BK252.out 0).trans rfl, (blk_cell BK252.out 1).trans rfl, (blk_cell BK252.out 2).trans rfl, (blk_cell BK253.out 0).trans rfl, (blk_cell BK253.out 1).trans rfl, (blk_cell BK253.out 2).trans rfl⟩ (fun hHeld => ?_)
        clear hK K
        refine norm_ (a' := ?_) ?_ ?_
        rotate_left
        · show Act.put _ (some 29) _ = _
          simp only [Act.put, List.setIfInBounds_toArray, List.set_cons_zero, List.set_cons_succ, i64_w, i32_w]
          rfl
        refine one_ (i := 8) (N := some 30) #[true, true, true, true, true, true, true, true, true, false] rfl rfl (one_of HT_.out (by kernel_rfl)) (by decide) (fun K hK => ?_)
        refine goes_ Try.func44 (by kernel_rfl) rfl #[.int .u64 t257, .int .u64 t258] (by rfl) rfl rfl lna_ ?_
        with_reducible refine (obolref03_less.calls t257 t258 t259 _ A38.out).mono ?_
        rintro e w' ⟨rfl, ⟨nd, rfl⟩⟩
        refine ⟨_, rfl, ?_⟩
        refine hK.out _ _ ⟨(blk_cell BK252.out 0).trans rfl, (blk_cell BK252.out 1).trans rfl, (blk_cell BK252.out 2).trans rfl, (blk_cell BK253.out 0).trans rfl, (blk_cell BK253.out 1).trans rfl, (blk_cell BK253.out 2).trans rfl⟩ (fun hHeld => ?_)
        clear hK K
        refine norm_ (a' := ?_) ?_ ?_
        rotate_left
        · show Act.put _ (some 30) _ = _
          simp only [Act.put, List.setIfInBounds_toArray, List.set_cons_zero, List.set_cons_succ, i64_w, i32_w]
          rfl
        refine pure_ (i := 9) (N := some 7) (v := ?_) (a' := ?_) #[true, true, true, true, true, true, true, true, true, true] rfl rfl (any_of HT_.out (by kernel_rfl)) (fun _ _ _ h => h) (Or.inl ⟨by rfl, ?_⟩) ?_ ?_
        rotate_left
        · intro w'
          go_simp
          with_reducible rfl
        rotate_left
        · simp only [Act.put, List.setIfInBounds_toArray, List.set_cons_zero, List.set_cons_succ, i64_w, i32_w]
          rfl
        refine done_ (done_of HT_.out (by kernel_rfl)) ?_
        try go_wp2
        (repeat rw [World.drewN_drewN])
        (try (rw [drewN_self w54]; generalize hq_ : World.drewN w54 _ = w54; have n0_ : Aside0 (w54.heap[gb252]? = some (.cells #[.bool false, .int .u64 a0_1, .int .u64 a0_2] 24 (0, 0))) := ⟨by rw [← hq_]; exact blk_⟩; have n1_ : Aside0 (w54.heap[gb253]? = some (.cells #[.bool false, .int .u64 a1_1, .int .u64 a1_2] 24 (0, 0))) := ⟨by rw [← hq_]; exact blk_⟩; have n2_ : Aside0 (w54.heap[gb254]? = some (.cells #[.bool false, .int .u64 0, .int .u64 0] 24 (0, 0))) := ⟨by rw [← hq_]; exact blk_⟩; have n3_ : Aside0 (Below w.heap.size w w54) := ⟨by rw [← hq_]; exact bel_⟩; clear BK252 BK253 BK254 HB hq_; have BK252 := n0_; have BK253 := n1_; have BK254 := n2_; have HB := n3_; clear n0_ n1_ n2_ n3_))
        have n0_ := Aside0.mk (blk_drew BK252.out)
        have n1_ := Aside0.mk (blk_drew BK253.out)
        have n2_ := Aside0.mk (blk_drew BK254.out)
        have n3_ := Aside0.mk (below_drew1 HB.out)
        clear BK252
        clear BK253
        clear BK254
        clear HB
        have BK252 := n0_
        have BK253 := n1_
        have BK254 := n2_
        have HB := n3_
        clear n0_ n1_ n2_ n3_
        refine start_ (n := 12) (S := fun w' => w'.cell? ⟨gb252, 0, none⟩ = some (.bool false) ∧ w'.cell? ⟨gb252, 1, none⟩ = some (.int .u64 a0_1) ∧ w'.cell? ⟨gb252, 2, none⟩ = some (.int .u64 a0_2)) (ds := []) #[false, false, false, false, false, false, false, false, false, false, false, false] (by kernel_rfl) rfl rfl ⟨(blk_cell BK252.out 0).trans rfl, (blk_cell BK252.out 1).trans rfl, (blk_cell BK252.out 2).trans rfl⟩ (fun hHeld => ?_); refine with_tabW obolref03_Sum.tab10 obolref03_Sum.bits10 (fun HT_ HW_ => ?_)
        generalize w54.drew = w55 at BK252 BK253 BK254 HB hHeld ⊢
        refine pure_ (i := 0) (N := some 31) (v := ?_) (a' := ?_) #[true, false, false, false, false, false, false, false, false, false, false, false] rfl rfl (any_of HT_.out (by kernel_rfl)) (fun _ _ _ h => h) (Or.inl ⟨by rfl, ?_⟩) ?_ ?_
        rotate_left
        · intro w'
          go_simp
          with_reducible rfl
        rotate_left
        · simp only [Act.put, List.setIfInBounds_toArray, List.set_cons_zero, List.set_cons_succ, i64_w, i32_w]
          rfl
        refine pure_ (i := 1) (N := some 32) (v := ?_) (a' := ?_) #[true, true, false, false, false, false, false, false, false, false, false, false] rfl rfl (any_of HT_.out (by kernel_rfl)) (fun _ _ _ h => h) (Or.inl ⟨by rfl, ?_⟩) ?_ ?_
        rotate_left
        · intro w'
          go_simp
          with_reducible rfl
        rotate_left
        · simp only [Act.put, List.setIfInBounds_toArray, List.set_cons_zero, List.set_cons_succ, i64_w, i32_w]
          rfl
        refine pure_ (i := 2) (N := some 33) (v := ?_) (a' := ?_) #[true, true, true, false, false, false, false, false, false, false, false, false] rfl rfl (any_of HT_.out (by kernel_rfl)) (fun _ _ _ h => h) (Or.inl ⟨by rfl, ?_⟩) ?_ ?_
        rotate_left
        · intro w'
          go_simp
          with_reducible rfl
        rotate_left
        · simp only [Act.put, List.setIfInBounds_toArray, List.set_cons_zero, List.set_cons_succ, i64_w, i32_w]
          rfl
        refine pure_ (i := 4) (N := some 35) (v := ?_) (a' := ?_) #[true, true, true, false, true, false, false, false, false, false, false, false] rfl rfl (any_of HT_.out (by kernel_rfl)) (fun _ _ _ h => h) (Or.inl ⟨by rfl, ?_⟩) ?_ ?_
        rotate_left
        · intro w'
          go_simp
          with_reducible rfl
        rotate_left
        · simp only [Act.put, List.setIfInBounds_toArray, List.set_cons_zero, List.set_cons_succ, i64_w, i32_w]
          rfl
        refine pure_ (i := 7) (N := some 38) (v := ?_) (a' := ?_) #[true, true, true, false, true, false, false, true, false, false, false, false] rfl rfl (any_of HT_.out (by kernel_rfl)) (fun _ _ _ h => h) (Or.inl ⟨by rfl, ?_⟩) ?_ ?_
        rotate_left
        · intro w'
          go_simp
          with_reducible rfl
        rotate_left
        · simp only [Act.put, List.setIfInBounds_toArray, List.set_cons_zero, List.set_cons_succ, i64_w, i32_w]
          rfl
        refine take_ (i := 3) (N := some 34) (v := ?_) (a' := ?_) #[true, true, true, true, true, false, false, true, false, false, false, false] rfl rfl (take_ofW HT_.out HW_.out (by kernel_rfl)) (fun _ _ _ h => h) (Or.inl ⟨by rfl, ?_⟩) hHeld ?_ ?_
        rotate_left
        · rintro w' ⟨s0, s1, s2⟩
          go_simp
          with_reducible rfl
        rotate_left
        · simp only [Act.put, List.setIfInBounds_toArray, List.set_cons_zero, List.set_cons_succ, i64_w, i32_w]
          rfl
        refine take_ (i := 8) (N := some 39) (v := ?_) (a' := ?_) #[true, true, true, true, true, false, false, true, true, false, false, false] rfl rfl (take_ofW HT_.out HW_.out (by kernel_rfl)) (fun _ _ _ h => h) (Or.inl ⟨by rfl, ?_⟩) hHeld ?_ ?_
        rotate_left
        · rintro w' ⟨s0, s1, s2⟩
          go_simp
          with_reducible rfl
        rotate_left
        · simp only [Act.put, List.setIfInBounds_toArray, List.set_cons_zero, List.set_cons_succ, i64_w, i32_w]
          rfl
        refine one_ (i := 5) (N := some 36) #[true, true, true, true, true, true, false, true, true, false, false, false] rfl rfl (one_of HT_.out (by kernel_rfl)) (by decide) (fun K hK => ?_)
        refine goes_ Try.func44 (by kernel_rfl) rfl #[.int .u64 a0_1, .int .u64 t259] (by rfl) rfl rfl lna_ ?_
        with_reducible refine (obolref03_less.calls a0_1 t259 t260 _ A39.out).mono ?_
        rintro e w' ⟨rfl, ⟨nd, rfl⟩⟩
        refine ⟨_, rfl, ?_⟩
        refine hK.out _ _ ⟨(blk_cell BK252.out 0).trans rfl, (blk_cell BK252.out 1).trans rfl, (blk_cell BK252.out 2).trans rfl⟩ (fun hHeld => ?_)
        clear hK K
        refine norm_ (a' := ?_) ?_ ?_
        rotate_left
        · show Act.put _ (some 36) _ = _
          simp only [Act.put, List.setIfInBounds_toArray, List.set_cons_zero, List.set_cons_succ, i64_w, i32_w]
          rfl
        refine one_ (i := 6) (N := some 37) #[true, true, true, true, true, true, true, true, true, false, false, false] rfl rfl (one_of HT_.out (by kernel_rfl)) (by decide) (fun K hK => ?_)
        refine goes_ Try.func45 (by kernel_rfl) rfl #[.int .u64 t256, .int .u64 t260] (by rfl) rfl rfl lna_ ?_
        with_reducible refine (obolref03_mul.calls t256 t260 t261 _ A40.out).mono ?_
        rintro e w' ⟨rfl, ⟨nd, rfl⟩⟩
        refine ⟨_, rfl, ?_⟩
        refine hK.out _ _ ⟨(blk_cell BK252.out 0).trans rfl, (blk_cell BK252.out 1).trans rfl, (blk_cell BK252.out 2).trans rfl⟩ (fun hHeld => ?_)
        clear hK K
        refine norm_ (a' := ?_) ?_ ?_
        rotate_left
        · show Act.put _ (some 37) _ = _
          simp only [Act.put, List.setIfInBounds_toArray, List.set_cons_zero, List.set_cons_succ, i64_w, i32_w]
          rfl
        refine one_ (i := 9) (N := some 40) #[true, true, true, true, true, true, true, true, true, true, false, false] rfl rfl (one_of HT_.out (by kernel_rfl)) (by decide) (fun K hK => ?_)
        refine goes_ Try.func44 (by kernel_rfl) rfl #[.int .u64 t261, .int .u64 a0_2] (by rfl) rfl rfl lna_ ?_
        with_reducible refine (obolref03_less.calls t261 a0_2 t262 _ A41.out).mono ?_
        rintro e w' ⟨rfl, ⟨nd, rfl⟩⟩
        refine ⟨_, rfl, ?_⟩
        refine hK.out _ _ ⟨(blk_cell BK252.out 0).trans rfl, (blk_cell BK252.out 1).trans rfl, (blk_cell BK252.out 2).trans rfl⟩ (fun hHeld => ?_)
        clear hK K
        refine norm_ (a' := ?_) ?_ ?_
        rotate_left
        · show Act.put _ (some 40) _ = _
          simp only [Act.put, List.setIfInBounds_toArray, List.set_cons_zero, List.set_cons_succ, i64_w, i32_w]
          rfl
        refine pure_ (i := 10) (N := some 41) (v := ?_) (a' := ?_) #[true, true, true, true, true, true, true, true, true, true, true, false] rfl rfl (any_of HT_.out (by kernel_rfl)) (fun _ _ _ h => h) (Or.inl ⟨by rfl, ?_⟩) ?_ ?_
        rotate_left
        · intro w'
          go_simp
          with_reducible rfl
        rotate_left
        · simp only [Act.put, List.setIfInBounds_toArray, List.set_cons_zero, List.set_cons_succ, i64_w, i32_w]
          rfl
        refine one_ (i := 11) (N := none) #[true, true, true, true, true, true, true, true, true, true, true, true] rfl rfl (one_of HT_.out (by kernel_rfl)) (by decide) (fun K hK => ?_)
        have hs56 : w55.cell? ⟨gb254, 0, none⟩ = some (.bool false) := (blk_cell BK254.out 0).trans rfl
        have hfs56 := blk_frozen BK254.out 0
        have hns56_0 := NB252_254.out
        have hns56_1 := NB253_254.out
        have hms56_0 := NB254_252.out
        have hms56_1 := NB254_253.out
        have hs57 : w55.cell? ⟨gb254, 1, none⟩ = some (.int .u64 0) := (blk_cell BK254.out 1).trans rfl
        have hfs57 := blk_frozen BK254.out 1
        have hns57_0 := NB252_254.out
        have hns57_1 := NB253_254.out
        have hms57_0 := NB254_252.out
        have hms57_1 := NB254_253.out
        have hs58 : w55.cell? ⟨gb254, 2, none⟩ = some (.int .u64 0) := (blk_cell BK254.out 2).trans rfl
        have hfs58 := blk_frozen BK254.out 2
        have hns58_0 := NB252_254.out
        have hns58_1 := NB253_254.out
        have hms58_0 := NB254_252.out
        have hms58_1 := NB254_253.out
        refine skip_ (w1 := ?_) (by rfl) rfl ?_ ?_
        rotate_left
        · go_simp
          rfl
        refine hK.out _ _ ⟨((cell_far (p := ⟨gb254, _, none⟩) NB252_254.out _).trans (((cell_far (p := ⟨gb254, _, none⟩) NB252_254.out _).trans (((cell_far (p := ⟨gb254, _, none⟩) NB252_254.out _).trans (hHeld.1)))))), ((cell_far (p := ⟨gb254, _, none⟩) NB252_254.out _).trans (((cell_far (p := ⟨gb254, _, none⟩) NB252_254.out _).trans (((cell_far (p := ⟨gb254, _, none⟩) NB252_254.out _).trans (hHeld.2.1)))))), ((cell_far (p := ⟨gb254, _, none⟩) NB252_254.out _).trans (((cell_far (p := ⟨gb254, _, none⟩) NB252_254.out _).trans (((cell_far (p := ⟨gb254, _, none⟩) NB252_254.out _).trans (hHeld.2.2))))))⟩ (fun hHeld => ?_)
        clear hK K
        refine done_ (done_of HT_.out (by kernel_rfl)) ?_
        try go_wp2
        refine bodyPost_ret (results_cell_row rfl _ _ gb254 24 #[.bool false, .int .u64 t259, .int .u64 t262] (0, 0) _ rfl (by (with_reducible repeat (first | refine blk_drewN ?_ _ | refine blk_drew ?_ | refine blk_alloc ?_ _)); refine blk_put (cs := #[.bool false, .int .u64 t259, .int .u64 0]) ?_ 2 _ rfl; (with_reducible repeat (first | refine blk_drewN ?_ _ | refine blk_drew ?_ | refine blk_alloc ?_ _)); refine blk_put (cs := #[.bool false, .int .u64 0, .int .u64 0]) ?_ 1 _ rfl; (with_reducible repeat (first | refine blk_drewN ?_ _ | refine blk_drew ?_ | refine blk_alloc ?_ _)); refine blk_put (cs := #[.bool false, .int .u64 0, .int .u64 0]) ?_ 0 _ rfl; exact blk_) Try.underlying24 rfl (by kernel_rfl)) rfl ?_
        exact ⟨by first | rfl | (simp [errW_none, errW_some] <;> rfl) | (simp [*, errW_none, errW_some] <;> rfl), bel_⟩

/-! ### obolref03_Is: function 19 -/
def obolref03_Is.j0 : Nat → Bool → Bool → Int → Int → Option (Bool)
  | 0, _, _, _, _ => none
  | k + 1, x20, x264000, x264001, x264002 => if x20 = true then (some false) else ((obolref03_mul.f x264002 x264002).bind fun t264 => ((obolref03_mul.f x264001 x264001).bind fun t265 => ((obolref03_mul.f x264001 t265).bind fun t266 => ((obolref01_Add.f 1152921505151057923 t266 x264001).bind fun t267 => (some (t264 == t267))))))
def obolref03_Is.f (k : Nat) (a0_0 : Bool) (a0_1 : Int) (a0_2 : Int) : Option (Bool) := if a0_0 = true then (if a0_1 = 0 then (some (a0_2 == 0)) else (some false)) else (if a0_1 ≥ 1152921505151057923 then (obolref03_Is.j0 k true a0_0 a0_1 a0_2) else (obolref03_Is.j0 k (decide (a0_2 ≥ 1152921505151057923)) a0_0 a0_1 a0_2))
theorem obolref03_Is.mono_l : ∀ k, (∀ y0 y1 y2 y3, LeO (obolref03_Is.j0 k y0 y1 y2 y3) (obolref03_Is.j0 (k + 1) y0 y1 y2 y3))
  | 0 => fun _ _ _ _ r h => by simp [obolref03_Is.j0] at h
  | k + 1 => by
    have ih0 := obolref03_Is.mono_l k
    · intro y0 y1 y2 y3
      unfold obolref03_Is.j0
      repeat' first
      | (with_reducible exact ih0 _ _ _ _)
      | (with_reducible exact LeO.refl _)
      | (with_reducible exact LeO.none _)
      | (with_reducible refine LeO.ite ?_ ?_)
      | (with_reducible refine LeO.bind ?_ (fun _ => ?_))
      | exact ih0 _ _ _ _
      | exact LeO.none _
      | refine LeO.ite ?_ ?_
      | refine LeO.bind ?_ (fun _ => ?_)
theorem obolref03_Is.mono : ∀ a0 a1 a2 k, LeO (obolref03_Is.f k a0 a1 a2) (obolref03_Is.f (k + 1) a0 a1 a2) := by
  intro a0 a1 a2 k
  have ih0 := obolref03_Is.mono_l k
  unfold obolref03_Is.f
  repeat' first
      | (with_reducible exact ih0 _ _ _ _)
      | (with_reducible exact LeO.refl _)
      | (with_reducible exact LeO.none _)
      | (with_reducible refine LeO.ite ?_ ?_)
      | (with_reducible refine LeO.bind ?_ (fun _ => ?_))
      | exact ih0 _ _ _ _
      | exact LeO.none _
      | refine LeO.ite ?_ ?_
      | refine LeO.bind ?_ (fun _ => ?_)
set_option maxHeartbeats 8000000 in
set_option maxRecDepth 100000 in
theorem obolref03_Is.calls (k : Nat) (a0_0 : Bool) (a0_1 : Int) (a0_2 : Int) (r : Bool) (w : World) (h : obolref03_Is.f k a0_0 a0_1 a0_2 = some r) :
    Calls Try.prog 19 #[.agg #[.bool a0_0, .int .u64 a0_1, .int .u64 a0_2]] w fun e w' => e = .returned (.bool r) ∧ Below w.heap.size w w' := by
  have hu24 := Try.underlying24
  have HB := Aside0.mk (Below.refl w.heap.size w)
  have H : (if a0_0 = true then (if a0_1 = 0 then (some (a0_2 == 0)) else (some false)) else (if a0_1 ≥ 1152921505151057923 then (obolref03_Is.j0 k true a0_0 a0_1 a0_2) else (obolref03_Is.j0 k (decide (a0_2 ≥ 1152921505151057923)) a0_0 a0_1 a0_2))) = some r := h
  clear h
  by_cases c2 : a0_0 = true
  · subst c2
    have H1 : (if a0_1 = 0 then (some (a0_2 == 0)) else (some false)) = some r := by rw [if_pos rfl] at H; exact H
    clear H
    have H := H1
    clear H1
    by_cases c3 : a0_1 = 0
    · rw [if_pos c3] at H
      have c3b0 : (a0_1 == 0) = true := beq_iff_eq.mpr c3
      have c3b1 : (a0_1 != 0) = false := bne_eq_false_iff_eq.mpr c3
      clear c3
      obtain rfl := Option.some.inj H
      go_enter Try.func19, Try.ntmps19
      go_wp2_with (first | ((with_reducible refine gate_dst (N := 1) rfl ?_); refine box_event ?hg (N := 1) ?hd (cs := #[.bool true, .int .u64 a0_1, .int .u64 a0_2]) (t := 24) ?hr ?_; (case hd => rfl); (case hg => rfl); (case hr => first | (go_simp; done) | (go_simp; rfl)); intro gb263 hg w4 hbox hb; have n0_ := Aside0.mk (below_step bel_ hb); have n1_ := Aside0.mk (hbox); have n2_ := Aside0.mk ((by rw [hg]; exact (below_size bel_) : w.heap.size ≤ gb263)); have n3_ := Aside0.mk ((by rw [hg]; exact (below_size bel_) : w.heap.size ≤ gb263)); clear HB; have HB := n0_; have BK263 := n1_; have GW263 := n2_; have GE263 := n3_; clear n0_ n1_ n2_ n3_; clear hb hbox hg; have hcz5_0 : w4.cell? ⟨gb263, 0, none⟩ = some (.bool true) := (blk_cell BK263.out 0).trans rfl; have hcz5_1 : w4.cell? ⟨gb263, 1, none⟩ = some (.int .u64 a0_1) := (blk_cell BK263.out 1).trans rfl; have hcz5_2 : w4.cell? ⟨gb263, 2, none⟩ = some (.int .u64 a0_2) := (blk_cell BK263.out 2).trans rfl; have hfz5_0 := blk_frozen BK263.out 0; have hfz5_1 := blk_frozen BK263.out 1; have hfz5_2 := blk_frozen BK263.out 2))
      repeat (go_quiet (first | ((with_reducible refine gate_dst (N := 1) rfl ?_); refine box_event ?hg (N := 1) ?hd (cs := #[.bool true, .int .u64 a0_1, .int .u64 a0_2]) (t := 24) ?hr ?_; (case hd => rfl); (case hg => rfl); (case hr => first | (go_simp; done) | (go_simp; rfl)); intro gb263 hg w4 hbox hb; have n0_ := Aside0.mk (below_step bel_ hb); have n1_ := Aside0.mk (hbox); have n2_ := Aside0.mk ((by rw [hg]; exact (below_size bel_) : w.heap.size ≤ gb263)); have n3_ := Aside0.mk ((by rw [hg]; exact (below_size bel_) : w.heap.size ≤ gb263)); clear HB; have HB := n0_; have BK263 := n1_; have GW263 := n2_; have GE263 := n3_; clear n0_ n1_ n2_ n3_; clear hb hbox hg; have hcz5_0 : w4.cell? ⟨gb263, 0, none⟩ = some (.bool true) := (blk_cell BK263.out 0).trans rfl; have hcz5_1 : w4.cell? ⟨gb263, 1, none⟩ = some (.int .u64 a0_1) := (blk_cell BK263.out 1).trans rfl; have hcz5_2 : w4.cell? ⟨gb263, 2, none⟩ = some (.int .u64 a0_2) := (blk_cell BK263.out 2).trans rfl; have hfz5_0 := blk_frozen BK263.out 0; have hfz5_1 := blk_frozen BK263.out 1; have hfz5_2 := blk_frozen BK263.out 2)); try go_wp2_with (first | ((with_reducible refine gate_dst (N := 1) rfl ?_); refine box_event ?hg (N := 1) ?hd (cs := #[.bool true, .int .u64 a0_1, .int .u64 a0_2]) (t := 24) ?hr ?_; (case hd => rfl); (case hg => rfl); (case hr => first | (go_simp; done) | (go_simp; rfl)); intro gb263 hg w4 hbox hb; have n0_ := Aside0.mk (below_step bel_ hb); have n1_ := Aside0.mk (hbox); have n2_ := Aside0.mk ((by rw [hg]; exact (below_size bel_) : w.heap.size ≤ gb263)); have n3_ := Aside0.mk ((by rw [hg]; exact (below_size bel_) : w.heap.size ≤ gb263)); clear HB; have HB := n0_; have BK263 := n1_; have GW263 := n2_; have GE263 := n3_; clear n0_ n1_ n2_ n3_; clear hb hbox hg; have hcz5_0 : w4.cell? ⟨gb263, 0, none⟩ = some (.bool true) := (blk_cell BK263.out 0).trans rfl; have hcz5_1 : w4.cell? ⟨gb263, 1, none⟩ = some (.int .u64 a0_1) := (blk_cell BK263.out 1).trans rfl; have hcz5_2 : w4.cell? ⟨gb263, 2, none⟩ = some (.int .u64 a0_2) := (blk_cell BK263.out 2).trans rfl; have hfz5_0 := blk_frozen BK263.out 0; have hfz5_1 := blk_frozen BK263.out 1; have hfz5_2 := blk_frozen BK263.out 2)))
      go_ret
      exact ⟨by first | rfl | (simp [errW_none, errW_some] <;> rfl) | (simp [*, errW_none, errW_some] <;> rfl), bel_⟩
    · rw [if_neg c3] at H
      have c3b0 : (a0_1 == 0) = false := beq_eq_false_iff_ne.mpr c3
      have c3b1 : (a0_1 != 0) = true := bne_iff_ne.mpr c3
      obtain rfl := Option.some.inj H
      go_enter Try.func19, Try.ntmps19
      go_wp2_with (first | ((with_reducible refine gate_dst (N := 1) rfl ?_); refine box_event ?hg (N := 1) ?hd (cs := #[.bool true, .int .u64 a0_1, .int .u64 a0_2]) (t := 24) ?hr ?_; (case hd => rfl); (case hg => rfl); (case hr => first | (go_simp; done) | (go_simp; rfl)); intro gb263 hg w6 hbox hb; have n0_ := Aside0.mk (below_step bel_ hb); have n1_ := Aside0.mk (hbox); have n2_ := Aside0.mk ((by rw [hg]; exact (below_size bel_) : w.heap.size ≤ gb263)); have n3_ := Aside0.mk ((by rw [hg]; exact (below_size bel_) : w.heap.size ≤ gb263)); clear HB; have HB := n0_; have BK263 := n1_; have GW263 := n2_; have GE263 := n3_; clear n0_ n1_ n2_ n3_; clear hb hbox hg; have hcz7_0 : w6.cell? ⟨gb263, 0, none⟩ = some (.bool true) := (blk_cell BK263.out 0).trans rfl; have hcz7_1 : w6.cell? ⟨gb263, 1, none⟩ = some (.int .u64 a0_1) := (blk_cell BK263.out 1).trans rfl; have hcz7_2 : w6.cell? ⟨gb263, 2, none⟩ = some (.int .u64 a0_2) := (blk_cell BK263.out 2).trans rfl; have hfz7_0 := blk_frozen BK263.out 0; have hfz7_1 := blk_frozen BK263.out 1; have hfz7_2 := blk_frozen BK263.out 2))
      repeat (go_quiet (first | ((with_reducible refine gate_dst (N := 1) rfl ?_); refine box_event ?hg (N := 1) ?hd (cs := #[.bool true, .int .u64 a0_1, .int .u64 a0_2]) (t := 24) ?hr ?_; (case hd => rfl); (case hg => rfl); (case hr => first | (go_simp; done) | (go_simp; rfl)); intro gb263 hg w6 hbox hb; have n0_ := Aside0.mk (below_step bel_ hb); have n1_ := Aside0.mk (hbox); have n2_ := Aside0.mk ((by rw [hg]; exact (below_size bel_) : w.heap.size ≤ gb263)); have n3_ := Aside0.mk ((by rw [hg]; exact (below_size bel_) : w.heap.size ≤ gb263)); clear HB; have HB := n0_; have BK263 := n1_; have GW263 := n2_; have GE263 := n3_; clear n0_ n1_ n2_ n3_; clear hb hbox hg; have hcz7_0 : w6.cell? ⟨gb263, 0, none⟩ = some (.bool true) := (blk_cell BK263.out 0).trans rfl; have hcz7_1 : w6.cell? ⟨gb263, 1, none⟩ = some (.int .u64 a0_1) := (blk_cell BK263.out 1).trans rfl; have hcz7_2 : w6.cell? ⟨gb263, 2, none⟩ = some (.int .u64 a0_2) := (blk_cell BK263.out 2).trans rfl; have hfz7_0 := blk_frozen BK263.out 0; have hfz7_1 := blk_frozen BK263.out 1; have hfz7_2 := blk_frozen BK263.out 2)); try go_wp2_with (first | ((with_reducible refine gate_dst (N := 1) rfl ?_); refine box_event ?hg (N := 1) ?hd (cs := #[.bool true, .int .u64 a0_1, .int .u64 a0_2]) (t := 24) ?hr ?_; (case hd => rfl); (case hg => rfl); (case hr => first | (go_simp; done) | (go_simp; rfl)); intro gb263 hg w6 hbox hb; have n0_ := Aside0.mk (below_step bel_ hb); have n1_ := Aside0.mk (hbox); have n2_ := Aside0.mk ((by rw [hg]; exact (below_size bel_) : w.heap.size ≤ gb263)); have n3_ := Aside0.mk ((by rw [hg]; exact (below_size bel_) : w.heap.size ≤ gb263)); clear HB; have HB := n0_; have BK263 := n1_; have GW263 := n2_; have GE263 := n3_; clear n0_ n1_ n2_ n3_; clear hb hbox hg; have hcz7_0 : w6.cell? ⟨gb263, 0, none⟩ = some (.bool true) := (blk_cell BK263.out 0).trans rfl; have hcz7_1 : w6.cell? ⟨gb263, 1, none⟩ = some (.int .u64 a0_1) := (blk_cell BK263.out 1).trans rfl; have hcz7_2 : w6.cell? ⟨gb263, 2, none⟩ = some (.int .u64 a0_2) := (blk_cell BK263.out 2).trans rfl; have hfz7_0 := blk_frozen BK263.out 0; have hfz7_1 := blk_frozen BK263.out 1; have hfz7_2 := blk_frozen BK263.out 2)))
      go_ret
      exact ⟨by first | rfl | (simp [errW_none, errW_some] <;> rfl) | (simp [*, errW_none, errW_some] <;> rfl), bel_⟩
  · replace c2 := Bool.eq_false_iff.mpr c2
    subst c2
    have H1 : (if a0_1 ≥ 1152921505151057923 then (obolref03_Is.j0 k true false a0_1 a0_2) else (obolref03_Is.j0 k (decide (a0_2 ≥ 1152921505151057923)) false a0_1 a0_2)) = some r := by rw [if_neg (show ¬ (false = true) by decide)] at H; exact H
    clear H
    have H := H1
    clear H1
    have HC8 := Aside0.mk H
    clear H
    go_enter Try.func19, Try.ntmps19
    go_upto_region 3 with (first | ((with_reducible refine gate_dst (N := 1) rfl ?_); refine box_event ?hg (N := 1) ?hd (cs := #[.bool false, .int .u64 a0_1, .int .u64 a0_2]) (t := 24) ?hr ?_; (case hd => rfl); (case hg => rfl); (case hr => first | (go_simp; done) | (go_simp; rfl)); intro gb263 hg w9 hbox hb; have n0_ := Aside0.mk (below_step bel_ hb); have n1_ := Aside0.mk (hbox); have n2_ := Aside0.mk ((by rw [hg]; exact (below_size bel_) : w.heap.size ≤ gb263)); have n3_ := Aside0.mk ((by rw [hg]; exact (below_size bel_) : w.heap.size ≤ gb263)); clear HB; have HB := n0_; have BK263 := n1_; have GW263 := n2_; have GE263 := n3_; clear n0_ n1_ n2_ n3_; clear hb hbox hg; have hcz10_0 : w9.cell? ⟨gb263, 0, none⟩ = some (.bool false) := (blk_cell BK263.out 0).trans rfl; have hcz10_1 : w9.cell? ⟨gb263, 1, none⟩ = some (.int .u64 a0_1) := (blk_cell BK263.out 1).trans rfl; have hcz10_2 : w9.cell? ⟨gb263, 2, none⟩ = some (.int .u64 a0_2) := (blk_cell BK263.out 2).trans rfl; have hfz10_0 := blk_frozen BK263.out 0; have hfz10_1 := blk_frozen BK263.out 1; have hfz10_2 := blk_frozen BK263.out 2))
    repeat (go_quiet (first | ((with_reducible refine gate_dst (N := 1) rfl ?_); refine box_event ?hg (N := 1) ?hd (cs := #[.bool false, .int .u64 a0_1, .int .u64 a0_2]) (t := 24) ?hr ?_; (case hd => rfl); (case hg => rfl); (case hr => first | (go_simp; done) | (go_simp; rfl)); intro gb263 hg w9 hbox hb; have n0_ := Aside0.mk (below_step bel_ hb); have n1_ := Aside0.mk (hbox); have n2_ := Aside0.mk ((by rw [hg]; exact (below_size bel_) : w.heap.size ≤ gb263)); have n3_ := Aside0.mk ((by rw [hg]; exact (below_size bel_) : w.heap.size ≤ gb263)); clear HB; have HB := n0_; have BK263 := n1_; have GW263 := n2_; have GE263 := n3_; clear n0_ n1_ n2_ n3_; clear hb hbox hg; have hcz10_0 : w9.cell? ⟨gb263, 0, none⟩ = some (.bool false) := (blk_cell BK263.out 0).trans rfl; have hcz10_1 : w9.cell? ⟨gb263, 1, none⟩ = some (.int .u64 a0_1) := (blk_cell BK263.out 1).trans rfl; have hcz10_2 : w9.cell? ⟨gb263, 2, none⟩ = some (.int .u64 a0_2) := (blk_cell BK263.out 2).trans rfl; have hfz10_0 := blk_frozen BK263.out 0; have hfz10_1 := blk_frozen BK263.out 1; have hfz10_2 := blk_frozen BK263.out 2)); go_upto_region 3 with (first | ((with_reducible refine gate_dst (N := 1) rfl ?_); refine box_event ?hg (N := 1) ?hd (cs := #[.bool false, .int .u64 a0_1, .int .u64 a0_2]) (t := 24) ?hr ?_; (case hd => rfl); (case hg => rfl); (case hr => first | (go_simp; done) | (go_simp; rfl)); intro gb263 hg w9 hbox hb; have n0_ := Aside0.mk (below_step bel_ hb); have n1_ := Aside0.mk (hbox); have n2_ := Aside0.mk ((by rw [hg]; exact (below_size bel_) : w.heap.size ≤ gb263)); have n3_ := Aside0.mk ((by rw [hg]; exact (below_size bel_) : w.heap.size ≤ gb263)); clear HB; have HB := n0_; have BK263 := n1_; have GW263 := n2_; have GE263 := n3_; clear n0_ n1_ n2_ n3_; clear hb hbox hg; have hcz10_0 : w9.cell? ⟨gb263, 0, none⟩ = some (.bool false) := (blk_cell BK263.out 0).trans rfl; have hcz10_1 : w9.cell? ⟨gb263, 1, none⟩ = some (.int .u64 a0_1) := (blk_cell BK263.out 1).trans rfl; have hcz10_2 : w9.cell? ⟨gb263, 2, none⟩ = some (.int .u64 a0_2) := (blk_cell BK263.out 2).trans rfl; have hfz10_0 := blk_frozen BK263.out 0; have hfz10_1 := blk_frozen BK263.out 1; have hfz10_2 := blk_frozen BK263.out 2)))
    (try simp only [Act.put, List.setIfInBounds_toArray, List.set_cons_zero, List.set_cons_succ])
    go_cut [20] (fun v20 wc => ∃ (kq : Nat) (x20_7 : Bool), v20 = .bool x20_7 ∧ Aside0 (obolref03_Is.j0 kq x20_7 false a0_1 a0_2 = some r) ∧ Aside0 (kq ≤ k) ∧ Aside0 (wc.heap[gb263]? = some (.cells #[.bool false, .int .u64 a0_1, .int .u64 a0_2] 24 (0, 0))) ∧ Aside0 (Below w.heap.size w wc))
    case first =>
      have H := HC8.out
      clear HC8
      by_cases c11 : a0_1 ≥ 1152921505151057923
      · rw [if_pos c11] at H
        have c11b0 : decide (1152921505151057923 ≤ a0_1) = true := decide_eq_true c11
        clear c11
        (first | rw [c11b0] | (simp only [i64_w, i32_w]; rw [c11b0]) | skip)
        have H' := Aside0.mk H
        clear H
        have hcz12_0 : w9.cell? ⟨gb263, 0, none⟩ = some (.bool false) := (blk_cell BK263.out 0).trans rfl
        have hcz12_1 : w9.cell? ⟨gb263, 1, none⟩ = some (.int .u64 a0_1) := (blk_cell BK263.out 1).trans rfl
        have hcz12_2 : w9.cell? ⟨gb263, 2, none⟩ = some (.int .u64 a0_2) := (blk_cell BK263.out 2).trans rfl
        have hfz12_0 := blk_frozen BK263.out 0
        have hfz12_1 := blk_frozen BK263.out 1
        have hfz12_2 := blk_frozen BK263.out 2
        go_wp2
        repeat (go_quiet (fail); try go_wp2)
        go_meet
        case rel => exact ⟨_, (true), (by first | rfl | (simp; done) | (simp [*]; done)), H', ⟨by first | omega | exact Nat.le_refl _⟩, ⟨blk_⟩, ⟨bel_⟩⟩
      · rw [if_neg c11] at H
        have c11b0 : decide (1152921505151057923 ≤ a0_1) = false := decide_eq_false c11
        clear c11
        (first | rw [c11b0] | (simp only [i64_w, i32_w]; rw [c11b0]) | skip)
        have H' := Aside0.mk H
        clear H
        have hcz13_0 : w9.cell? ⟨gb263, 0, none⟩ = some (.bool false) := (blk_cell BK263.out 0).trans rfl
        have hcz13_1 : w9.cell? ⟨gb263, 1, none⟩ = some (.int .u64 a0_1) := (blk_cell BK263.out 1).trans rfl
        have hcz13_2 : w9.cell? ⟨gb263, 2, none⟩ = some (.int .u64 a0_2) := (blk_cell BK263.out 2).trans rfl
        have hfz13_0 := blk_frozen BK263.out 0
        have hfz13_1 := blk_frozen BK263.out 1
        have hfz13_2 := blk_frozen BK263.out 2
        go_wp2
        repeat (go_quiet (fail); try go_wp2)
        go_meet
        case rel => exact ⟨_, (decide (a0_2 ≥ 1152921505151057923)), (by first | rfl | (simp; done) | (simp [*]; done)), H', ⟨by first | omega | exact Nat.le_refl _⟩, ⟨blk_⟩, ⟨bel_⟩⟩
    case rest =>
      clear HC8
      try clear c1
      try clear c2
      try clear p2
      try clear c3
      try clear c3b0
      try clear c3b1
      try clear c11
      try clear c11b0
      try clear hcz10_0
      try clear hcz10_1
      try clear hcz10_2
      try clear hcz12_0
      try clear hcz12_1
      try clear hcz12_2
      try clear hcz13_0
      try clear hcz13_1
      try clear hcz13_2
      try clear hcz5_0
      try clear hcz5_1
      try clear hcz5_2
      try clear hcz7_0
      try clear hcz7_1
      try clear hcz7_2
      try clear hfz10_0
      try clear hfz10_1
      try clear hfz10_2
      try clear hfz12_0
      try clear hfz12_1
      try clear hfz12_2
      try clear hfz13_0
      try clear hfz13_1
      try clear hfz13_2
      try clear hfz5_0
      try clear hfz5_1
      try clear hfz5_2
      try clear hfz7_0
      try clear hfz7_1
      try clear hfz7_2
      obtain ⟨kq, x20_7, rfl, HA, HJ7, BK263, HB⟩ := hcut
      cases kq with
      | zero => exact absurd HA.out (by simp [obolref03_Is.j0])
      | succ kj7 =>
        have H := HA.out
        clear HA
        simp only [obolref03_Is.j0] at H
        by_cases c14 : x20_7 = true
        · subst c14
          have H1 : (some false) = some r := by rw [if_pos rfl] at H; exact H
          clear H
          have H := H1
          clear H1
          obtain rfl := Option.some.inj H
          go_wp2
          repeat (go_quiet (fail); try go_wp2)
          go_ret
          exact ⟨by first | rfl | (simp [errW_none, errW_some] <;> rfl) | (simp [*, errW_none, errW_some] <;> rfl), bel_⟩
        · replace c14 := Bool.eq_false_iff.mpr c14
          subst c14
          have H1 : ((obolref03_mul.f a0_2 a0_2).bind fun t264 => ((obolref03_mul.f a0_1 a0_1).bind fun t265 => ((obolref03_mul.f a0_1 t265).bind fun t266 => ((obolref01_Add.f 1152921505151057923 t266 a0_1).bind fun t267 => (some (t264 == t267)))))) = some r := by rw [if_neg (show ¬ (false = true) by decide)] at H; exact H
          clear H
          have H := H1
          clear H1
          replace H := Option.bind_eq_some_iff.mp H
          obtain ⟨t264, A150, H⟩ := H
          (try dsimp only at H)
          have A15 := Aside0.mk A150
          clear A150
          replace H := Option.bind_eq_some_iff.mp H
          obtain ⟨t265, A160, H⟩ := H
          (try dsimp only at H)
          have A16 := Aside0.mk A160
          clear A160
          replace H := Option.bind_eq_some_iff.mp H
          obtain ⟨t266, A170, H⟩ := H
          (try dsimp only at H)
          have A17 := Aside0.mk A170
          clear A170
          replace H := Option.bind_eq_some_iff.mp H
          obtain ⟨t267, A180, H⟩ := H
          (try dsimp only at H)
          have A18 := Aside0.mk A180
          clear A180
          obtain rfl := Option.some.inj H
          have hcz19_0 : wc.cell? ⟨gb263, 0, none⟩ = some (.bool false) := (blk_cell BK263.out 0).trans rfl
          have hcz19_1 : wc.cell? ⟨gb263, 1, none⟩ = some (.int .u64 a0_1) := (blk_cell BK263.out 1).trans rfl
          have hcz19_2 : wc.cell? ⟨gb263, 2, none⟩ = some (.int .u64 a0_2) := (blk_cell BK263.out 2).trans rfl
          have hfz19_0 := blk_frozen BK263.out 0
          have hfz19_1 := blk_frozen BK263.out 1
          have hfz19_2 := blk_frozen BK263.out 2
          go_wp2_with (first | (go_at_call 45; (with_reducible refine (obolref03_mul.calls a0_2 a0_2 t264 _ A15.out).mono ?_); rintro e w' ⟨rfl, ⟨nd, rfl⟩⟩; (try first | exact ⟨rfl, _, World.drewN_drewN _ _ _⟩ | exact ⟨rfl, _, Eq.trans (World.drewN_drewN _ _ _) (congrArg (World.drewN _) (Nat.add_assoc _ _ _))⟩)) | (go_at_call 45; (with_reducible refine (obolref03_mul.calls a0_1 a0_1 t265 _ A16.out).mono ?_); rintro e w' ⟨rfl, ⟨nd, rfl⟩⟩; (try first | exact ⟨rfl, _, World.drewN_drewN _ _ _⟩ | exact ⟨rfl, _, Eq.trans (World.drewN_drewN _ _ _) (congrArg (World.drewN _) (Nat.add_assoc _ _ _))⟩)) | (go_at_call 45; (with_reducible refine (obolref03_mul.calls a0_1 t265 t266 _ A17.out).mono ?_); rintro e w' ⟨rfl, ⟨nd, rfl⟩⟩; (try first | exact ⟨rfl, _, World.drewN_drewN _ _ _⟩ | exact ⟨rfl, _, Eq.trans (World.drewN_drewN _ _ _) (congrArg (World.drewN _) (Nat.add_assoc _ _ _))⟩)) | (go_at_call 46; (with_reducible refine (obolref01_Add.calls 1152921505151057923 t266 a0_1 t267 _ A18.out).mono ?_); rintro e w' ⟨rfl, ⟨nd, rfl⟩⟩; (try first | exact ⟨rfl, _, World.drewN_drewN _ _ _⟩ | exact ⟨rfl, _, Eq.trans (World.drewN_drewN _ _ _) (congrArg (World.drewN _) (Nat.add_assoc _ _ _))⟩)))
          repeat (go_quiet (first | (go_at_call 45; (with_reducible refine (obolref03_mul.calls a0_2 a0_2 t264 _ A15.out).mono ?_); rintro e w' ⟨rfl, ⟨nd, rfl⟩⟩; (try first | exact ⟨rfl, _, World.drewN_drewN _ _ _⟩ | exact ⟨rfl, _, Eq.trans (World.drewN_drewN _ _ _) (congrArg (World.drewN _) (Nat.add_assoc _ _ _))⟩)) | (go_at_call 45; (with_reducible refine (obolref03_mul.calls a0_1 a0_1 t265 _ A16.out).mono ?_); rintro e w' ⟨rfl, ⟨nd, rfl⟩⟩; (try first | exact ⟨rfl, _, World.drewN_drewN _ _ _⟩ | exact ⟨rfl, _, Eq.trans (World.drewN_drewN _ _ _) (congrArg (World.drewN _) (Nat.add_assoc _ _ _))⟩)) | (go_at_call 45; (with_reducible refine (obolref03_mul.calls a0_1 t265 t266 _ A17.out).mono ?_); rintro e w' ⟨rfl, ⟨nd, rfl⟩⟩; (try first | exact ⟨rfl, _, World.drewN_drewN _ _ _⟩ | exact ⟨rfl, _, Eq.trans (World.drewN_drewN _ _ _) (congrArg (World.drewN _) (Nat.add_assoc _ _ _))⟩)) | (go_at_call 46; (with_reducible refine (obolref01_Add.calls 1152921505151057923 t266 a0_1 t267 _ A18.out).mono ?_); rintro e w' ⟨rfl, ⟨nd, rfl⟩⟩; (try first | exact ⟨rfl, _, World.drewN_drewN _ _ _⟩ | exact ⟨rfl, _, Eq.trans (World.drewN_drewN _ _ _) (congrArg (World.drewN _) (Nat.add_assoc _ _ _))⟩))); try go_wp2_with (first | (go_at_call 45; (with_reducible refine (obolref03_mul.calls a0_2 a0_2 t264 _ A15.out).mono ?_); rintro e w' ⟨rfl, ⟨nd, rfl⟩⟩; (try first | exact ⟨rfl, _, World.drewN_drewN _ _ _⟩ | exact ⟨rfl, _, Eq.trans (World.drewN_drewN _ _ _) (congrArg (World.drewN _) (Nat.add_assoc _ _ _))⟩)) | (go_at_call 45; (with_reducible refine (obolref03_mul.calls a0_1 a0_1 t265 _ A16.out).mono ?_); rintro e w' ⟨rfl, ⟨nd, rfl⟩⟩; (try first | exact ⟨rfl, _, World.drewN_drewN _ _ _⟩ | exact ⟨rfl, _, Eq.trans (World.drewN_drewN _ _ _) (congrArg (World.drewN _) (Nat.add_assoc _ _ _))⟩)) | (go_at_call 45; (with_reducible refine (obolref03_mul.calls a0_1 t265 t266 _ A17.out).mono ?_); rintro e w' ⟨rfl, ⟨nd, rfl⟩⟩; (try first | exact ⟨rfl, _, World.drewN_drewN _ _ _⟩ | exact ⟨rfl, _, Eq.trans (World.drewN_drewN _ _ _) (congrArg (World.drewN _) (Nat.add_assoc _ _ _))⟩)) | (go_at_call 46; (with_reducible refine (obolref01_Add.calls 1152921505151057923 t266 a0_1 t267 _ A18.out).mono ?_); rintro e w' ⟨rfl, ⟨nd, rfl⟩⟩; (try first | exact ⟨rfl, _, World.drewN_drewN _ _ _⟩ | exact ⟨rfl, _, Eq.trans (World.drewN_drewN _ _ _) (congrArg (World.drewN _) (Nat.add_assoc _ _ _))⟩))))
          go_ret
          exact ⟨by first | rfl | (simp [errW_none, errW_some] <;> rfl) | (simp [*, errW_none, errW_some] <;> rfl), bel_⟩

/-! ### obolref03_Times: function 22 -/
def obolref03_Times.l0 : Nat → Int → Int → Bool → Int → Int → Bool → Int → Int → Option (Bool × Int × Int)
  | 0, _, _, _, _, _, _, _, _ => none
  | k + 1, x1, x6, x269000, x269001, x269002, x271000, x271001, x271002 => if x6 < 64 then ((obolref03_Sum.f x271000 x271001 x271002 x271000 x271001 x271002).bind fun bt271 => (if 0 ≤ (wrap64 (63 - x6)) then (if (Go.bits .and .u64 (shr .u64 x1 (wrap64 (63 - x6))) 1) = 1 then ((obolref03_Sum.f bt271.1 bt271.2.1 bt271.2.2 x269000 x269001 x269002).bind fun bt274 => (obolref03_Times.l0 k x1 (wrap64 (x6 + 1)) x269000 x269001 x269002 bt274.1 bt274.2.1 bt274.2.2)) else (obolref03_Times.l0 k x1 (wrap64 (x6 + 1)) x269000 x269001 x269002 bt271.1 bt271.2.1 bt271.2.2)) else (none))) else (some (x271000, x271001, x271002))
def obolref03_Times.f (k : Nat) (a0_0 : Bool) (a0_1 : Int) (a0_2 : Int) (a1 : Int) : Option (Bool × Int × Int) := obolref03_Times.l0 k a1 0 a0_0 a0_1 a0_2 true 0 0
theorem obolref03_Times.mono_l : ∀ k, (∀ y0 y1 y2 y3 y4 y5 y6 y7, LeO (obolref03_Times.l0 k y0 y1 y2 y3 y4 y5 y6 y7) (obolref03_Times.l0 (k + 1) y0 y1 y2 y3 y4 y5 y6 y7))
  | 0 => fun _ _ _ _ _ _ _ _ r h => by simp [obolref03_Times.l0] at h
  | k + 1 => by
    have ih0 := obolref03_Times.mono_l k
    · intro y0 y1 y2 y3 y4 y5 y6 y7
      unfold obolref03_Times.l0
      repeat' first
      | (with_reducible exact ih0 _ _ _ _ _ _ _ _)
      | (with_reducible exact LeO.refl _)
      | (with_reducible exact LeO.none _)
      | (with_reducible refine LeO.ite ?_ ?_)
      | (with_reducible refine LeO.bind ?_ (fun _ => ?_))
      | exact ih0 _ _ _ _ _ _ _ _
      | exact LeO.none _
      | refine LeO.ite ?_ ?_
      | refine LeO.bind ?_ (fun _ => ?_)
theorem obolref03_Times.mono : ∀ a0 a1 a2 a3 k, LeO (obolref03_Times.f k a0 a1 a2 a3) (obolref03_Times.f (k + 1) a0 a1 a2 a3) := by
  intro a0 a1 a2 a3 k
  have ih0 := obolref03_Times.mono_l k
  unfold obolref03_Times.f
  repeat' first
      | (with_reducible exact ih0 _ _ _ _ _ _ _ _)
      | (with_reducible exact LeO.refl _)
      | (with_reducible exact LeO.none _)
      | (with_reducible refine LeO.ite ?_ ?_)
      | (with_reducible refine LeO.bind ?_ (fun _ => ?_))
      | exact ih0 _ _ _ _ _ _ _ _
      | exact LeO.none _
      | refine LeO.ite ?_ ?_
      | refine LeO.bind ?_ (fun _ => ?_)
set_option maxHeartbeats 8000000 in
set_option maxRecDepth 100000 in
theorem obolref03_Times.calls (k : Nat) (a0_0 : Bool) (a0_1 : Int) (a0_2 : Int) (a1 : Int) (r1 : Bool) (r2 : Int) (r3 : Int) (w : World) (h : obolref03_Times.f k a0_0 a0_1 a0_2 a1 = some (r1, r2, r3)) :
    Calls Try.prog 22 #[.agg #[.bool a0_0, .int .u64 a0_1, .int .u64 a0_2], .int .u64 a1] w fun e w' => e = .returned (.agg #[.bool r1, .int .u64 r2, .int .u64 r3]) ∧ Below w.heap.size w w' := by
  have hu24 := Try.underlying24
  have HB := Aside0.mk (Below.refl w.heap.size w)
  have H : (obolref03_Times.l0 k a1 0 a0_0 a0_1 a0_2 true 0 0) = some (r1, r2, r3) := h
  clear h
  have H' := Aside0.mk H
  clear H
  go_enter Try.func22, Try.ntmps22
  go_wp2_with (first | ((with_reducible refine gate_dst (N := 2) rfl ?_); refine box_event ?hg (N := 2) ?hd (cs := #[.bool a0_0, .int .u64 a0_1, .int .u64 a0_2]) (t := 24) ?hr ?_; (case hd => rfl); (case hg => rfl); (case hr => first | (go_simp; done) | (go_simp; rfl)); intro gb268 hg w3 hbox hb; have n0_ := Aside0.mk (below_step bel_ hb); have n1_ := Aside0.mk (hbox); have n2_ := Aside0.mk ((by rw [hg]; exact (below_size bel_) : w.heap.size ≤ gb268)); have n3_ := Aside0.mk ((by rw [hg]; exact (below_size bel_) : w.heap.size ≤ gb268)); clear HB; have HB := n0_; have BK268 := n1_; have GW268 := n2_; have GE268 := n3_; clear n0_ n1_ n2_ n3_; clear hb hbox hg) | ((with_reducible refine gate_dst (N := 4) rfl ?_); refine box_event ?hg (N := 4) ?hd (cs := #[.bool false, .int .u64 0, .int .u64 0]) (t := 24) ?hr ?_; (case hd => rfl); (case hg => rfl); (case hr => first | (go_simp; done) | (go_simp; rfl)); intro gb269 hg w4 hbox hb; have n0_ := Aside0.mk (blk_below (g := gb268) (o := .cells #[.bool a0_0, .int .u64 a0_1, .int .u64 a0_2] 24 (0, 0)) blk_ hb); have n1_ := Aside0.mk (below_step bel_ hb); have n2_ := Aside0.mk (hbox); have n3_ := Aside0.mk ((by rw [hg]; exact (below_size bel_) : w.heap.size ≤ gb269)); have n4_ := Aside0.mk ((by rw [hg]; exact (below_size bel_) : w.heap.size ≤ gb269)); have n5_ := Aside0.mk ((by rw [hg]; exact Nat.ne_of_lt (blk_lt (g := gb268) (o := .cells #[.bool a0_0, .int .u64 a0_1, .int .u64 a0_2] 24 (0, 0)) blk_) : gb268 ≠ gb269)); have n6_ := Aside0.mk ((by rw [hg]; exact Nat.ne_of_gt (blk_lt (g := gb268) (o := .cells #[.bool a0_0, .int .u64 a0_1, .int .u64 a0_2] 24 (0, 0)) blk_) : gb269 ≠ gb268)); clear BK268; clear HB; have BK268 := n0_; have HB := n1_; have BK269 := n2_; have GW269 := n3_; have GE269 := n4_; have NB268_269 := n5_; have NB269_268 := n6_; clear n0_ n1_ n2_ n3_ n4_ n5_ n6_; clear hb hbox hg) | ((with_reducible refine gate_dst (N := 5) rfl ?_); refine box_event ?hg (N := 5) ?hd (cs := #[.bool false, .int .u64 0, .int .u64 0]) (t := 24) ?hr ?_; (case hd => rfl); (case hg => rfl); (case hr => first | (go_simp; done) | (go_simp; rfl)); intro gb270 hg w5 hbox hb; have n0_ := Aside0.mk (blk_below (g := gb268) (o := .cells #[.bool a0_0, .int .u64 a0_1, .int .u64 a0_2] 24 (0, 0)) blk_ hb); have n1_ := Aside0.mk (blk_below (g := gb269) (o := .cells #[.bool false, .int .u64 0, .int .u64 0] 24 (0, 0)) blk_ hb); have n2_ := Aside0.mk (below_step bel_ hb); have n3_ := Aside0.mk (hbox); have n4_ := Aside0.mk ((by rw [hg]; exact (below_size bel_) : w.heap.size ≤ gb270)); have n5_ := Aside0.mk ((by rw [hg]; exact (below_size bel_) : w.heap.size ≤ gb270)); have n6_ := Aside0.mk ((by rw [hg]; exact Nat.ne_of_lt (blk_lt (g := gb268) (o := .cells #[.bool a0_0, .int .u64 a0_1, .int .u64 a0_2] 24 (0, 0)) blk_) : gb268 ≠ gb270)); have n7_ := Aside0.mk ((by rw [hg]; exact Nat.ne_of_gt (blk_lt (g := gb268) (o := .cells #[.bool a0_0, .int .u64 a0_1, .int .u64 a0_2] 24 (0, 0)) blk_) : gb270 ≠ gb268)); have n8_ := Aside0.mk ((by rw [hg]; exact Nat.ne_of_lt (blk_lt (g := gb269) (o := .cells #[.bool false, .int .u64 0, .int .u64 0] 24 (0, 0)) blk_) : gb269 ≠ gb270)); have n9_ := Aside0.mk ((by rw [hg]; exact Nat.ne_of_gt (blk_lt (g := gb269) (o := .cells #[.bool false, .int .u64 0, .int .u64 0] 24 (0, 0)) blk_) : gb270 ≠ gb269)); clear BK268; clear BK269; clear HB; have BK268 := n0_; have BK269 := n1_; have HB := n2_; have BK270 := n3_; have GW270 := n4_; have GE270 := n5_; have NB268_270 := n6_; have NB270_268 := n7_; have NB269_270 := n8_; have NB270_269 := n9_; clear n0_ n1_ n2_ n3_ n4_ n5_ n6_ n7_ n8_ n9_; clear hb hbox hg; have hnb6 := NB270_268.out; have hnc6 := NB268_270.out; have hnb7 := NB270_269.out; have hnc7 := NB269_270.out; have hcz8_0 : w5.cell? ⟨gb270, 0, none⟩ = some (.bool false) := (blk_cell BK270.out 0).trans rfl; have hcz8_1 : w5.cell? ⟨gb270, 1, none⟩ = some (.int .u64 0) := (blk_cell BK270.out 1).trans rfl; have hcz8_2 : w5.cell? ⟨gb270, 2, none⟩ = some (.int .u64 0) := (blk_cell BK270.out 2).trans rfl; have hfz8_0 := blk_frozen BK270.out 0; have hfz8_1 := blk_frozen BK270.out 1; have hfz8_2 := blk_frozen BK270.out 2))
  go_loopg [6] k (fun kq v6 w' => ∃ (x6_1 : Int) (x271000_1 : Bool) (x271001_1 : Int) (x271002_1 : Int), v6 = .int .i64 x6_1 ∧ Aside0 (obolref03_Times.l0 kq a1 x6_1 a0_0 a0_1 a0_2 x271000_1 x271001_1 x271002_1 = some (r1, r2, r3)) ∧ Aside0 (kq ≤ k) ∧ Aside0 (w'.heap[gb268]? = some (.cells #[.bool a0_0, .int .u64 a0_1, .int .u64 a0_2] 24 (0, 0))) ∧ Aside0 (w'.heap[gb269]? = some (.cells #[.bool false, .int .u64 0, .int .u64 0] 24 (0, 0))) ∧ Aside0 (w'.heap[gb270]? = some (.cells #[.bool x271000_1, .int .u64 x271001_1, .int .u64 x271002_1] 24 (0, 0))) ∧ Aside0 (Below w.heap.size w w'))
  case atStart => exact ⟨(0), (true), (0), (0), (by first | rfl | (simp; done) | (simp [*]; done)), H', ⟨Nat.le_refl _⟩, ⟨by (with_reducible repeat (first | refine blk_drewN ?_ _ | refine blk_drew ?_ | refine blk_alloc ?_ _)); refine blk_far ?_ NB268_270.out _; (with_reducible repeat (first | refine blk_drewN ?_ _ | refine blk_drew ?_ | refine blk_alloc ?_ _)); refine blk_far ?_ NB268_270.out _; (with_reducible repeat (first | refine blk_drewN ?_ _ | refine blk_drew ?_ | refine blk_alloc ?_ _)); refine blk_far ?_ NB268_270.out _; exact blk_⟩, ⟨by (with_reducible repeat (first | refine blk_drewN ?_ _ | refine blk_drew ?_ | refine blk_alloc ?_ _)); refine blk_far ?_ NB269_270.out _; (with_reducible repeat (first | refine blk_drewN ?_ _ | refine blk_drew ?_ | refine blk_alloc ?_ _)); refine blk_far ?_ NB269_270.out _; (with_reducible repeat (first | refine blk_drewN ?_ _ | refine blk_drew ?_ | refine blk_alloc ?_ _)); refine blk_far ?_ NB269_270.out _; exact blk_⟩, ⟨by (with_reducible repeat (first | refine blk_drewN ?_ _ | refine blk_drew ?_ | refine blk_alloc ?_ _)); refine blk_put (cs := #[.bool true, .int .u64 0, .int .u64 0]) ?_ 2 _ rfl; (with_reducible repeat (first | refine blk_drewN ?_ _ | refine blk_drew ?_ | refine blk_alloc ?_ _)); refine blk_put (cs := #[.bool true, .int .u64 0, .int .u64 0]) ?_ 1 _ rfl; (with_reducible repeat (first | refine blk_drewN ?_ _ | refine blk_drew ?_ | refine blk_alloc ?_ _)); refine blk_put (cs := #[.bool false, .int .u64 0, .int .u64 0]) ?_ 0 _ rfl; exact blk_⟩, ⟨bel_⟩⟩
  case round =>
    clear H'
    try clear c2
    try clear p2
    try clear c6
    try clear c7
    try clear hcz8_0
    try clear hcz8_1
    try clear hcz8_2
    try clear hfz8_0
    try clear hfz8_1
    try clear hfz8_2
    obtain ⟨x6_1, x271000_1, x271001_1, x271002_1, rfl, HA, HK1, BK268, BK269, BK270, HB⟩ := hrel
    cases gk with
    | zero => exact absurd HA.out (by simp [obolref03_Times.l0])
    | succ k1 =>
      have H := HA.out
      clear HA
      simp only [obolref03_Times.l0] at H
      by_cases c9 : x6_1 < 64
      · rw [if_pos c9] at H
        have c9b0 : decide (x6_1 < 64) = true := decide_eq_true c9
        clear c9
        replace H := Option.bind_eq_some_iff.mp H
        obtain ⟨⟨t271, t272, t273⟩, A100, H⟩ := H
        (try dsimp only at H)
        have A10 := Aside0.mk A100
        clear A100
        obtain ⟨ji11, hji11⟩ : ∃ j_ : Int, (wrap64 (63 - x6_1)) = j_ := ⟨_, rfl⟩
        replace H : (if 0 ≤ (ji11) then (if (Go.bits .and .u64 (shr .u64 a1 (ji11)) 1) = 1 then ((obolref03_Sum.f t271 t272 t273 a0_0 a0_1 a0_2).bind fun bt274 => (obolref03_Times.l0 k1 a1 (wrap64 (x6_1 + 1)) a0_0 a0_1 a0_2 bt274.1 bt274.2.1 bt274.2.2)) else (obolref03_Times.l0 k1 a1 (wrap64 (x6_1 + 1)) a0_0 a0_1 a0_2 t271 t272 t273)) else (none)) = some (r1, r2, r3) := by first | (rw [hji11] at H; exact H) | (simp only [hji11] at H ⊢; exact H)
        (try rw [hji11] at A10)
        have hji11w : (IntKind.i64.wrap (63 - x6_1)) = ji11 := (i64_w _).trans hji11
        by_cases c12 : 0 ≤ (ji11)
        · rw [if_pos c12] at H
          have c12b0 := eq_true c12
          have c12b1 : decide (0 ≤ (ji11)) = true := decide_eq_true c12
          clear c12
          obtain ⟨ji13, hji13⟩ : ∃ j_ : Int, (shr .u64 a1 (ji11)) = j_ := ⟨_, rfl⟩
          replace H : (if (Go.bits .and .u64 (ji13) 1) = 1 then ((obolref03_Sum.f t271 t272 t273 a0_0 a0_1 a0_2).bind fun bt274 => (obolref03_Times.l0 k1 a1 (wrap64 (x6_1 + 1)) a0_0 a0_1 a0_2 bt274.1 bt274.2.1 bt274.2.2)) else (obolref03_Times.l0 k1 a1 (wrap64 (x6_1 + 1)) a0_0 a0_1 a0_2 t271 t272 t273)) = some (r1, r2, r3) := by first | (rw [hji13] at H; exact H) | (simp only [hji13] at H ⊢; exact H)
          (try rw [hji13] at A10)
          have hji13_ : (a1 / 2 ^ min (ji11).toNat 64) = ji13 := hji13
          have hji13z : (ji11) ≤ 64 → (a1 / 2 ^ (ji11).toNat) = ji13 := shr_small hji13
          by_cases c14 : (Go.bits .and .u64 (ji13) 1) = 1
          · rw [if_pos c14] at H
            have c14b0 : ((Go.bits .and .u64 (ji13) 1) == 1) = true := beq_iff_eq.mpr c14
            have c14b1 : ((Go.bits .and .u64 (ji13) 1) != 1) = false := bne_eq_false_iff_eq.mpr c14
            clear c14
            replace H := Option.bind_eq_some_iff.mp H
            obtain ⟨⟨t274, t275, t276⟩, A150, H⟩ := H
            (try dsimp only at H)
            have A15 := Aside0.mk A150
            clear A150
            have H' := Aside0.mk H
            clear H
            have hnb16 := NB270_268.out
            have hnc16 := NB268_270.out
            have hnb17 := NB270_269.out
            have hnc17 := NB269_270.out
            have hcz18_0 : wr.cell? ⟨gb270, 0, none⟩ = some (.bool x271000_1) := (blk_cell BK270.out 0).trans rfl
            have hcz18_1 : wr.cell? ⟨gb270, 1, none⟩ = some (.int .u64 x271001_1) := (blk_cell BK270.out 1).trans rfl
            have hcz18_2 : wr.cell? ⟨gb270, 2, none⟩ = some (.int .u64 x271002_1) := (blk_cell BK270.out 2).trans rfl
            have hfz18_0 := blk_frozen BK270.out 0
            have hfz18_1 := blk_frozen BK270.out 1
            have hfz18_2 := blk_frozen BK270.out 2
            go_wp2_with (first | ((with_reducible refine gate_callee (f := 18) rfl ?_); refine goesL_ (some 14) rfl rfl Try.func18 (by kernel_rfl) rfl #[.agg #[.bool x271000_1, .int .u64 x271001_1, .int .u64 x271002_1], .agg #[.bool x271000_1, .int .u64 x271001_1, .int .u64 x271002_1]] rfl lna_ ?_; (with_reducible refine (obolref03_Sum.calls x271000_1 x271001_1 x271002_1 x271000_1 x271001_1 x271002_1 t271 t272 t273 _ A10.out).mono ?_); rintro e w19 ⟨rfl, hb⟩; refine ⟨_, rfl, ?_⟩; have n0_ := Aside0.mk (blk_below (g := gb268) (o := .cells #[.bool a0_0, .int .u64 a0_1, .int .u64 a0_2] 24 (0, 0)) blk_ hb); have n1_ := Aside0.mk (blk_below (g := gb269) (o := .cells #[.bool false, .int .u64 0, .int .u64 0] 24 (0, 0)) blk_ hb); have n2_ := Aside0.mk (blk_below (g := gb270) (o := .cells #[.bool x271000_1, .int .u64 x271001_1, .int .u64 x271002_1] 24 (0, 0)) blk_ hb); have n3_ := Aside0.mk (below_step bel_ hb); clear BK268; clear BK269; clear BK270; clear HB; have BK268 := n0_; have BK269 := n1_; have BK270 := n2_; have HB := n3_; clear n0_ n1_ n2_ n3_; (try clear hb); (try clear hb2); (try clear hk); (try clear hi); have hcz20_0 : w19.cell? ⟨gb270, 0, none⟩ = some (.bool x271000_1) := (blk_cell BK270.out 0).trans rfl; have hcz20_1 : w19.cell? ⟨gb270, 1, none⟩ = some (.int .u64 x271001_1) := (blk_cell BK270.out 1).trans rfl; have hcz20_2 : w19.cell? ⟨gb270, 2, none⟩ = some (.int .u64 x271002_1) := (blk_cell BK270.out 2).trans rfl; have hfz20_0 := blk_frozen BK270.out 0; have hfz20_1 := blk_frozen BK270.out 1; have hfz20_2 := blk_frozen BK270.out 2) | ((with_reducible refine gate_store (t := 24) (p := 5) rfl ?_); refine store_event (t := 24) (p := 5) (v := ?vo_w21) (w1 := (((w19.setCell ⟨gb270, 0, none⟩ (.bool t271)).setCell ⟨gb270, 1, none⟩ (.int .u64 t272)).setCell ⟨gb270, 2, none⟩ (.int .u64 t273))) ?hg ?ho ?hn ?hr ?_; (case ho => rfl); (case hg => rfl); (case hn => rfl); (case hr => first | (go_simp; done) | (go_simp; rfl)); intro w21 hw; have n0_ : Aside0 (w21.heap[gb268]? = some (.cells #[.bool a0_0, .int .u64 a0_1, .int .u64 a0_2] 24 (0, 0))) := ⟨(by rw [hw]; exact (by (with_reducible repeat (first | refine blk_drewN ?_ _ | refine blk_drew ?_ | refine blk_alloc ?_ _)); refine blk_far ?_ NB268_270.out _; (with_reducible repeat (first | refine blk_drewN ?_ _ | refine blk_drew ?_ | refine blk_alloc ?_ _)); refine blk_far ?_ NB268_270.out _; (with_reducible repeat (first | refine blk_drewN ?_ _ | refine blk_drew ?_ | refine blk_alloc ?_ _)); refine blk_far ?_ NB268_270.out _; exact blk_))⟩; have n1_ : Aside0 (w21.heap[gb269]? = some (.cells #[.bool false, .int .u64 0, .int .u64 0] 24 (0, 0))) := ⟨(by rw [hw]; exact (by (with_reducible repeat (first | refine blk_drewN ?_ _ | refine blk_drew ?_ | refine blk_alloc ?_ _)); refine blk_far ?_ NB269_270.out _; (with_reducible repeat (first | refine blk_drewN ?_ _ | refine blk_drew ?_ | refine blk_alloc ?_ _)); refine blk_far ?_ NB269_270.out _; (with_reducible repeat (first | refine blk_drewN ?_ _ | refine blk_drew ?_ | refine blk_alloc ?_ _)); refine blk_far ?_ NB269_270.out _; exact blk_))⟩; have n2_ : Aside0 (w21.heap[gb270]? = some (.cells #[.bool t271, .int .u64 t272, .int .u64 t273] 24 (0, 0))) := ⟨(by rw [hw]; exact (by (with_reducible repeat (first | refine blk_drewN ?_ _ | refine blk_drew ?_ | refine blk_alloc ?_ _)); refine blk_put (cs := #[.bool t271, .int .u64 t272, .int .u64 x271002_1]) ?_ 2 _ rfl; (with_reducible repeat (first | refine blk_drewN ?_ _ | refine blk_drew ?_ | refine blk_alloc ?_ _)); refine blk_put (cs := #[.bool t271, .int .u64 x271001_1, .int .u64 x271002_1]) ?_ 1 _ rfl; (with_reducible repeat (first | refine blk_drewN ?_ _ | refine blk_drew ?_ | refine blk_alloc ?_ _)); refine blk_put (cs := #[.bool x271000_1, .int .u64 x271001_1, .int .u64 x271002_1]) ?_ 0 _ rfl; exact blk_))⟩; have n3_ : Aside0 (Below w.heap.size w w21) := ⟨(by rw [hw]; exact bel_)⟩; clear hw; clear BK268; clear BK269; clear BK270; clear HB; have BK268 := n0_; have BK269 := n1_; have BK270 := n2_; have HB := n3_; clear n0_ n1_ n2_ n3_; have hcz22_0 : w21.cell? ⟨gb270, 0, none⟩ = some (.bool t271) := (blk_cell BK270.out 0).trans rfl; have hcz22_1 : w21.cell? ⟨gb270, 1, none⟩ = some (.int .u64 t272) := (blk_cell BK270.out 1).trans rfl; have hcz22_2 : w21.cell? ⟨gb270, 2, none⟩ = some (.int .u64 t273) := (blk_cell BK270.out 2).trans rfl; have hfz22_0 := blk_frozen BK270.out 0; have hfz22_1 := blk_frozen BK270.out 1; have hfz22_2 := blk_frozen BK270.out 2; have hnb23 := NB268_269.out; have hnc23 := NB269_268.out; have hcz24_0 : w21.cell? ⟨gb268, 0, none⟩ = some (.bool a0_0) := (blk_cell BK268.out 0).trans rfl; have hcz24_1 : w21.cell? ⟨gb268, 1, none⟩ = some (.int .u64 a0_1) := (blk_cell BK268.out 1).trans rfl; have hcz24_2 : w21.cell? ⟨gb268, 2, none⟩ = some (.int .u64 a0_2) := (blk_cell BK268.out 2).trans rfl; have hfz24_0 := blk_frozen BK268.out 0; have hfz24_1 := blk_frozen BK268.out 1; have hfz24_2 := blk_frozen BK268.out 2) | ((with_reducible refine gate_callee (f := 18) rfl ?_); refine goesL_ (some 23) rfl rfl Try.func18 (by kernel_rfl) rfl #[.agg #[.bool t271, .int .u64 t272, .int .u64 t273], .agg #[.bool a0_0, .int .u64 a0_1, .int .u64 a0_2]] rfl lna_ ?_; (with_reducible refine (obolref03_Sum.calls t271 t272 t273 a0_0 a0_1 a0_2 t274 t275 t276 _ A15.out).mono ?_); rintro e w25 ⟨rfl, hb⟩; refine ⟨_, rfl, ?_⟩; have n0_ := Aside0.mk (blk_below (g := gb268) (o := .cells #[.bool a0_0, .int .u64 a0_1, .int .u64 a0_2] 24 (0, 0)) blk_ hb); have n1_ := Aside0.mk (blk_below (g := gb269) (o := .cells #[.bool false, .int .u64 0, .int .u64 0] 24 (0, 0)) blk_ hb); have n2_ := Aside0.mk (blk_below (g := gb270) (o := .cells #[.bool t271, .int .u64 t272, .int .u64 t273] 24 (0, 0)) blk_ hb); have n3_ := Aside0.mk (below_step bel_ hb); clear BK268; clear BK269; clear BK270; clear HB; have BK268 := n0_; have BK269 := n1_; have BK270 := n2_; have HB := n3_; clear n0_ n1_ n2_ n3_; (try clear hb); (try clear hb2); (try clear hk); (try clear hi); have hcz26_0 : w25.cell? ⟨gb270, 0, none⟩ = some (.bool t271) := (blk_cell BK270.out 0).trans rfl; have hcz26_1 : w25.cell? ⟨gb270, 1, none⟩ = some (.int .u64 t272) := (blk_cell BK270.out 1).trans rfl; have hcz26_2 : w25.cell? ⟨gb270, 2, none⟩ = some (.int .u64 t273) := (blk_cell BK270.out 2).trans rfl; have hfz26_0 := blk_frozen BK270.out 0; have hfz26_1 := blk_frozen BK270.out 1; have hfz26_2 := blk_frozen BK270.out 2))
            go_roundg k1
            case measure => have := HK1.out; omega
            case rel => exact ⟨(wrap64 (x6_1 + 1)), (t274), (t275), (t276), (by first | rfl | (simp; done) | (simp [*]; done)), H', ⟨by have := HK1.out; omega⟩, ⟨by (with_reducible repeat (first | refine blk_drewN ?_ _ | refine blk_drew ?_ | refine blk_alloc ?_ _)); refine blk_far ?_ NB268_270.out _; (with_reducible repeat (first | refine blk_drewN ?_ _ | refine blk_drew ?_ | refine blk_alloc ?_ _)); refine blk_far ?_ NB268_270.out _; (with_reducible repeat (first | refine blk_drewN ?_ _ | refine blk_drew ?_ | refine blk_alloc ?_ _)); refine blk_far ?_ NB268_270.out _; exact blk_⟩, ⟨by (with_reducible repeat (first | refine blk_drewN ?_ _ | refine blk_drew ?_ | refine blk_alloc ?_ _)); refine blk_far ?_ NB269_270.out _; (with_reducible repeat (first | refine blk_drewN ?_ _ | refine blk_drew ?_ | refine blk_alloc ?_ _)); refine blk_far ?_ NB269_270.out _; (with_reducible repeat (first | refine blk_drewN ?_ _ | refine blk_drew ?_ | refine blk_alloc ?_ _)); refine blk_far ?_ NB269_270.out _; exact blk_⟩, ⟨by (with_reducible repeat (first | refine blk_drewN ?_ _ | refine blk_drew ?_ | refine blk_alloc ?_ _)); refine blk_put (cs := #[.bool t274, .int .u64 t275, .int .u64 t273]) ?_ 2 _ rfl; (with_reducible repeat (first | refine blk_drewN ?_ _ | refine blk_drew ?_ | refine blk_alloc ?_ _)); refine blk_put (cs := #[.bool t274, .int .u64 t272, .int .u64 t273]) ?_ 1 _ rfl; (with_reducible repeat (first | refine blk_drewN ?_ _ | refine blk_drew ?_ | refine blk_alloc ?_ _)); refine blk_put (cs := #[.bool t271, .int .u64 t272, .int .u64 t273]) ?_ 0 _ rfl; exact blk_⟩, ⟨bel_⟩⟩
          · rw [if_neg c14] at H
            have c14b0 : ((Go.bits .and .u64 (ji13) 1) == 1) = false := beq_eq_false_iff_ne.mpr c14
            have c14b1 : ((Go.bits .and .u64 (ji13) 1) != 1) = true := bne_iff_ne.mpr c14
            have H' := Aside0.mk H
            clear H
            have hnb27 := NB270_268.out
            have hnc27 := NB268_270.out
            have hnb28 := NB270_269.out
            have hnc28 := NB269_270.out
            have hcz29_0 : wr.cell? ⟨gb270, 0, none⟩ = some (.bool x271000_1) := (blk_cell BK270.out 0).trans rfl
            have hcz29_1 : wr.cell? ⟨gb270, 1, none⟩ = some (.int .u64 x271001_1) := (blk_cell BK270.out 1).trans rfl
            have hcz29_2 : wr.cell? ⟨gb270, 2, none⟩ = some (.int .u64 x271002_1) := (blk_cell BK270.out 2).trans rfl
            have hfz29_0 := blk_frozen BK270.out 0
            have hfz29_1 := blk_frozen BK270.out 1
            have hfz29_2 := blk_frozen BK270.out 2
            go_wp2_with (first | ((with_reducible refine gate_callee (f := 18) rfl ?_); refine goesL_ (some 14) rfl rfl Try.func18 (by kernel_rfl) rfl #[.agg #[.bool x271000_1, .int .u64 x271001_1, .int .u64 x271002_1], .agg #[.bool x271000_1, .int .u64 x271001_1, .int .u64 x271002_1]] rfl lna_ ?_; (with_reducible refine (obolref03_Sum.calls x271000_1 x271001_1 x271002_1 x271000_1 x271001_1 x271002_1 t271 t272 t273 _ A10.out).mono ?_); rintro e w30 ⟨rfl, hb⟩; refine ⟨_, rfl, ?_⟩; have n0_ := Aside0.mk (blk_below (g := gb268) (o := .cells #[.bool a0_0, .int .u64 a0_1, .int .u64 a0_2] 24 (0, 0)) blk_ hb); have n1_ := Aside0.mk (blk_below (g := gb269) (o := .cells #[.bool false, .int .u64 0, .int .u64 0] 24 (0, 0)) blk_ hb); have n2_ := Aside0.mk (blk_below (g := gb270) (o := .cells #[.bool x271000_1, .int .u64 x271001_1, .int .u64 x271002_1] 24 (0, 0)) blk_ hb); have n3_ := Aside0.mk (below_step bel_ hb); clear BK268; clear BK269; clear BK270; clear HB; have BK268 := n0_; have BK269 := n1_; have BK270 := n2_; have HB := n3_; clear n0_ n1_ n2_ n3_; (try clear hb); (try clear hb2); (try clear hk); (try clear hi); have hcz31_0 : w30.cell? ⟨gb270, 0, none⟩ = some (.bool x271000_1) := (blk_cell BK270.out 0).trans rfl; have hcz31_1 : w30.cell? ⟨gb270, 1, none⟩ = some (.int .u64 x271001_1) := (blk_cell BK270.out 1).trans rfl; have hcz31_2 : w30.cell? ⟨gb270, 2, none⟩ = some (.int .u64 x271002_1) := (blk_cell BK270.out 2).trans rfl; have hfz31_0 := blk_frozen BK270.out 0; have hfz31_1 := blk_frozen BK270.out 1; have hfz31_2 := blk_frozen BK270.out 2))
            go_roundg k1
            case measure => have := HK1.out; omega
            case rel => exact ⟨(wrap64 (x6_1 + 1)), (t271), (t272), (t273), (by first | rfl | (simp; done) | (simp [*]; done)), H', ⟨by have := HK1.out; omega⟩, ⟨by (with_reducible repeat (first | refine blk_drewN ?_ _ | refine blk_drew ?_ | refine blk_alloc ?_ _)); refine blk_far ?_ NB268_270.out _; (with_reducible repeat (first | refine blk_drewN ?_ _ | refine blk_drew ?_ | refine blk_alloc ?_ _)); refine blk_far ?_ NB268_270.out _; (with_reducible repeat (first | refine blk_drewN ?_ _ | refine blk_drew ?_ | refine blk_alloc ?_ _)); refine blk_far ?_ NB268_270.out _; exact blk_⟩, ⟨by (with_reducible repeat (first | refine blk_drewN ?_ _ | refine blk_drew ?_ | refine blk_alloc ?_ _)); refine blk_far ?_ NB269_270.out _; (with_reducible repeat (first | refine blk_drewN ?_ _ | refine blk_drew ?_ | refine blk_alloc ?_ _)); refine blk_far ?_ NB269_270.out _; (with_reducible repeat (first | refine blk_drewN ?_ _ | refine blk_drew ?_ | refine blk_alloc ?_ _)); refine blk_far ?_ NB269_270.out _; exact blk_⟩, ⟨by (with_reducible repeat (first | refine blk_drewN ?_ _ | refine blk_drew ?_ | refine blk_alloc ?_ _)); refine blk_put (cs := #[.bool t271, .int .u64 t272, .int .u64 x271002_1]) ?_ 2 _ rfl; (with_reducible repeat (first | refine blk_drewN ?_ _ | refine blk_drew ?_ | refine blk_alloc ?_ _)); refine blk_put (cs := #[.bool t271, .int .u64 x271001_1, .int .u64 x271002_1]) ?_ 1 _ rfl; (with_reducible repeat (first | refine blk_drewN ?_ _ | refine blk_drew ?_ | refine blk_alloc ?_ _)); refine blk_put (cs := #[.bool x271000_1, .int .u64 x271001_1, .int .u64 x271002_1]) ?_ 0 _ rfl; exact blk_⟩, ⟨bel_⟩⟩
        · rw [if_neg c12] at H
          exact absurd H (by simp)
      · rw [if_neg c9] at H
        have c9b0 : decide (x6_1 < 64) = false := decide_eq_false c9
        clear c9
        simp only [Option.some.injEq, Prod.mk.injEq] at H
        obtain ⟨rfl, rfl, rfl⟩ := H
        have hnb32 := NB270_268.out
        have hnc32 := NB268_270.out
        have hnb33 := NB270_269.out
        have hnc33 := NB269_270.out
        have hcz34_0 : wr.cell? ⟨gb270, 0, none⟩ = some (.bool x271000_1) := (blk_cell BK270.out 0).trans rfl
        have hcz34_1 : wr.cell? ⟨gb270, 1, none⟩ = some (.int .u64 x271001_1) := (blk_cell BK270.out 1).trans rfl
        have hcz34_2 : wr.cell? ⟨gb270, 2, none⟩ = some (.int .u64 x271002_1) := (blk_cell BK270.out 2).trans rfl
        have hfz34_0 := blk_frozen BK270.out 0
        have hfz34_1 := blk_frozen BK270.out 1
        have hfz34_2 := blk_frozen BK270.out 2
        have hnb35 := NB269_268.out
        have hnc35 := NB268_269.out
        have hcz36_0 : wr.cell? ⟨gb269, 0, none⟩ = some (.bool false) := (blk_cell BK269.out 0).trans rfl
        have hcz36_1 : wr.cell? ⟨gb269, 1, none⟩ = some (.int .u64 0) := (blk_cell BK269.out 1).trans rfl
        have hcz36_2 : wr.cell? ⟨gb269, 2, none⟩ = some (.int .u64 0) := (blk_cell BK269.out 2).trans rfl
        have hfz36_0 := blk_frozen BK269.out 0
        have hfz36_1 := blk_frozen BK269.out 1
        have hfz36_2 := blk_frozen BK269.out 2
        go_wp2
        refine bodyPost_ret (results_cell_row rfl _ _ gb269 24 #[.bool x271000_1, .int .u64 x271001_1, .int .u64 x271002_1] (0, 0) _ rfl (by (with_reducible repeat (first | refine blk_drewN ?_ _ | refine blk_drew ?_ | refine blk_alloc ?_ _)); refine blk_put (cs := #[.bool x271000_1, .int .u64 x271001_1, .int .u64 0]) ?_ 2 _ rfl; (with_reducible repeat (first | refine blk_drewN ?_ _ | refine blk_drew ?_ | refine blk_alloc ?_ _)); refine blk_put (cs := #[.bool x271000_1, .int .u64 0, .int .u64 0]) ?_ 1 _ rfl; (with_reducible repeat (first | refine blk_drewN ?_ _ | refine blk_drew ?_ | refine blk_alloc ?_ _)); refine blk_put (cs := #[.bool false, .int .u64 0, .int .u64 0]) ?_ 0 _ rfl; exact blk_) Try.underlying24 rfl (by kernel_rfl)) rfl ?_
        exact ⟨by first | rfl | (simp [errW_none, errW_some] <;> rfl) | (simp [*, errW_none, errW_some] <;> rfl), bel_⟩

/-! ### obolref03_In: function 25 -/
def obolref03_In.f (k : Nat) (a0_0 : Bool) (a0_1 : Int) (a0_2 : Int) : Option (Bool) := (obolref03_Is.f k a0_0 a0_1 a0_2).bind fun t278 => (if t278 = true then ((obolref03_Times.f k a0_0 a0_1 a0_2 288230376287764481).bind fun bt279 => (some bt279.1)) else (some false))
theorem obolref03_In.mono : ∀ a0 a1 a2 k, LeO (obolref03_In.f k a0 a1 a2) (obolref03_In.f (k + 1) a0 a1 a2) := by
  intro a0 a1 a2 k
  unfold obolref03_In.f
  repeat' first
      | (with_reducible exact obolref03_Is.mono _ _ _ _)
      | (with_reducible exact obolref03_Times.mono _ _ _ _ _)
      | (with_reducible exact LeO.refl _)
      | (with_reducible exact LeO.none _)
      | (with_reducible refine LeO.ite ?_ ?_)
      | (with_reducible refine LeO.bind ?_ (fun _ => ?_))
      | exact obolref03_Is.mono _ _ _ _
      | exact obolref03_Times.mono _ _ _ _ _
      | exact LeO.none _
      | refine LeO.ite ?_ ?_
      | refine LeO.bind ?_ (fun _ => ?_)
set_option maxHeartbeats 8000000 in
set_option maxRecDepth 100000 in
theorem obolref03_In.calls (k : Nat) (a0_0 : Bool) (a0_1 : Int) (a0_2 : Int) (r : Bool) (w : World) (h : obolref03_In.f k a0_0 a0_1 a0_2 = some r) :
    Calls Try.prog 25 #[.agg #[.bool a0_0, .int .u64 a0_1, .int .u64 a0_2]] w fun e w' => e = .returned (.bool r) ∧ Below w.heap.size w w' := by
  have hu24 := Try.underlying24
  have hfl24_0 : ∀ (x0 x1 x2 : Value) (W : World), (Instr.field 24 (.agg #[x0, x1, x2]) 0).run Try.prog W = .ok (x0) W := fun _ _ _ W => by rfl
  have HB := Aside0.mk (Below.refl w.heap.size w)
  have H : ((obolref03_Is.f k a0_0 a0_1 a0_2).bind fun t278 => (if t278 = true then ((obolref03_Times.f k a0_0 a0_1 a0_2 288230376287764481).bind fun bt279 => (some bt279.1)) else (some false))) = some r := h
  clear h
  replace H := Option.bind_eq_some_iff.mp H
  obtain ⟨t278, A20, H⟩ := H
  (try dsimp only at H)
  have A2 := Aside0.mk A20
  clear A20
  by_cases c3 : t278 = true
  · subst c3
    have H1 : ((obolref03_Times.f k a0_0 a0_1 a0_2 288230376287764481).bind fun bt279 => (some bt279.1)) = some r := by rw [if_pos rfl] at H; exact H
    clear H
    have H := H1
    clear H1
    replace H := Option.bind_eq_some_iff.mp H
    obtain ⟨⟨t279, t280, t281⟩, A40, H⟩ := H
    (try dsimp only at H)
    have A4 := Aside0.mk A40
    clear A40
    obtain rfl := Option.some.inj H
    go_enter Try.func25, Try.ntmps25
    go_wp2_with (first | ((with_reducible refine gate_dst (N := 1) rfl ?_); refine box_event ?hg (N := 1) ?hd (cs := #[.bool a0_0, .int .u64 a0_1, .int .u64 a0_2]) (t := 24) ?hr ?_; (case hd => rfl); (case hg => rfl); (case hr => first | (go_simp; done) | (go_simp; rfl)); intro gb277 hg w5 hbox hb; have n0_ := Aside0.mk (below_step bel_ hb); have n1_ := Aside0.mk (hbox); have n2_ := Aside0.mk ((by rw [hg]; exact (below_size bel_) : w.heap.size ≤ gb277)); have n3_ := Aside0.mk ((by rw [hg]; exact (below_size bel_) : w.heap.size ≤ gb277)); clear HB; have HB := n0_; have BK277 := n1_; have GW277 := n2_; have GE277 := n3_; clear n0_ n1_ n2_ n3_; clear hb hbox hg; have hcz6_0 : w5.cell? ⟨gb277, 0, none⟩ = some (.bool a0_0) := (blk_cell BK277.out 0).trans rfl; have hcz6_1 : w5.cell? ⟨gb277, 1, none⟩ = some (.int .u64 a0_1) := (blk_cell BK277.out 1).trans rfl; have hcz6_2 : w5.cell? ⟨gb277, 2, none⟩ = some (.int .u64 a0_2) := (blk_cell BK277.out 2).trans rfl; have hfz6_0 := blk_frozen BK277.out 0; have hfz6_1 := blk_frozen BK277.out 1; have hfz6_2 := blk_frozen BK277.out 2) | ((with_reducible refine gate_callee (f := 19) rfl ?_); refine goesL_ (some 5) rfl rfl Try.func19 (by kernel_rfl) rfl #[.agg #[.bool a0_0, .int .u64 a0_1, .int .u64 a0_2]] rfl lna_ ?_; (with_reducible refine (obolref03_Is.calls k a0_0 a0_1 a0_2 true _ A2.out).mono ?_); rintro e w7 ⟨rfl, hb⟩; refine ⟨_, rfl, ?_⟩; have n0_ := Aside0.mk (blk_below (g := gb277) (o := .cells #[.bool a0_0, .int .u64 a0_1, .int .u64 a0_2] 24 (0, 0)) blk_ hb); have n1_ := Aside0.mk (below_step bel_ hb); clear BK277; clear HB; have BK277 := n0_; have HB := n1_; clear n0_ n1_; (try clear hb); (try clear hb2); (try clear hk); (try clear hi); have hcz8_0 : w7.cell? ⟨gb277, 0, none⟩ = some (.bool a0_0) := (blk_cell BK277.out 0).trans rfl; have hcz8_1 : w7.cell? ⟨gb277, 1, none⟩ = some (.int .u64 a0_1) := (blk_cell BK277.out 1).trans rfl; have hcz8_2 : w7.cell? ⟨gb277, 2, none⟩ = some (.int .u64 a0_2) := (blk_cell BK277.out 2).trans rfl; have hfz8_0 := blk_frozen BK277.out 0; have hfz8_1 := blk_frozen BK277.out 1; have hfz8_2 := blk_frozen BK277.out 2) | (go_at_call 22; (with_reducible refine (obolref03_Times.calls k a0_0 a0_1 a0_2 288230376287764481 t279 t280 t281 _ A4.out).mono ?_); rintro e w9 ⟨rfl, hb⟩; have n0_ := Aside0.mk (blk_below (g := gb277) (o := .cells #[.bool a0_0, .int .u64 a0_1, .int .u64 a0_2] 24 (0, 0)) blk_ hb); have n1_ := Aside0.mk (below_step bel_ hb); clear BK277; clear HB; have BK277 := n0_; have HB := n1_; clear n0_ n1_; (try clear hb); (try clear hb2); (try clear hk); (try clear hi)))
    go_ret
    exact ⟨by first | rfl | (simp [errW_none, errW_some] <;> rfl) | (simp [*, errW_none, errW_some] <;> rfl), bel_⟩
  · replace c3 := Bool.eq_false_iff.mpr c3
    subst c3
    have H1 : (some false) = some r := by rw [if_neg (show ¬ (false = true) by decide)] at H; exact H
    clear H
    have H := H1
    clear H1
    obtain rfl := Option.some.inj H
    go_enter Try.func25, Try.ntmps25
    go_wp2_with (first | ((with_reducible refine gate_dst (N := 1) rfl ?_); refine box_event ?hg (N := 1) ?hd (cs := #[.bool a0_0, .int .u64 a0_1, .int .u64 a0_2]) (t := 24) ?hr ?_; (case hd => rfl); (case hg => rfl); (case hr => first | (go_simp; done) | (go_simp; rfl)); intro gb277 hg w10 hbox hb; have n0_ := Aside0.mk (below_step bel_ hb); have n1_ := Aside0.mk (hbox); have n2_ := Aside0.mk ((by rw [hg]; exact (below_size bel_) : w.heap.size ≤ gb277)); have n3_ := Aside0.mk ((by rw [hg]; exact (below_size bel_) : w.heap.size ≤ gb277)); clear HB; have HB := n0_; have BK277 := n1_; have GW277 := n2_; have GE277 := n3_; clear n0_ n1_ n2_ n3_; clear hb hbox hg; have hcz11_0 : w10.cell? ⟨gb277, 0, none⟩ = some (.bool a0_0) := (blk_cell BK277.out 0).trans rfl; have hcz11_1 : w10.cell? ⟨gb277, 1, none⟩ = some (.int .u64 a0_1) := (blk_cell BK277.out 1).trans rfl; have hcz11_2 : w10.cell? ⟨gb277, 2, none⟩ = some (.int .u64 a0_2) := (blk_cell BK277.out 2).trans rfl; have hfz11_0 := blk_frozen BK277.out 0; have hfz11_1 := blk_frozen BK277.out 1; have hfz11_2 := blk_frozen BK277.out 2) | ((with_reducible refine gate_callee (f := 19) rfl ?_); refine goesL_ (some 5) rfl rfl Try.func19 (by kernel_rfl) rfl #[.agg #[.bool a0_0, .int .u64 a0_1, .int .u64 a0_2]] rfl lna_ ?_; (with_reducible refine (obolref03_Is.calls k a0_0 a0_1 a0_2 false _ A2.out).mono ?_); rintro e w12 ⟨rfl, hb⟩; refine ⟨_, rfl, ?_⟩; have n0_ := Aside0.mk (blk_below (g := gb277) (o := .cells #[.bool a0_0, .int .u64 a0_1, .int .u64 a0_2] 24 (0, 0)) blk_ hb); have n1_ := Aside0.mk (below_step bel_ hb); clear BK277; clear HB; have BK277 := n0_; have HB := n1_; clear n0_ n1_; (try clear hb); (try clear hb2); (try clear hk); (try clear hi)))
    go_ret
    exact ⟨by first | rfl | (simp [errW_none, errW_some] <;> rfl) | (simp [*, errW_none, errW_some] <;> rfl), bel_⟩

/-! ### obolref03_Sure: function 15 -/
def obolref03_Sure.f (k : Nat) (a0_0 : Bool) (a0_1 : Int) (a0_2 : Int) : Option (Bool × Int × Int) := (obolref03_Is.f k a0_0 a0_1 a0_2).bind fun t284 => (if t284 = true then (some (a0_0, a0_1, a0_2)) else (some (true, 0, 0)))
theorem obolref03_Sure.mono : ∀ a0 a1 a2 k, LeO (obolref03_Sure.f k a0 a1 a2) (obolref03_Sure.f (k + 1) a0 a1 a2) := by
  intro a0 a1 a2 k
  unfold obolref03_Sure.f
  repeat' first
      | (with_reducible exact obolref03_Is.mono _ _ _ _)
      | (with_reducible exact LeO.refl _)
      | (with_reducible exact LeO.none _)
      | (with_reducible refine LeO.ite ?_ ?_)
      | (with_reducible refine LeO.bind ?_ (fun _ => ?_))
      | exact obolref03_Is.mono _ _ _ _
      | exact LeO.none _
      | refine LeO.ite ?_ ?_
      | refine LeO.bind ?_ (fun _ => ?_)
set_option maxHeartbeats 8000000 in
set_option maxRecDepth 100000 in
theorem obolref03_Sure.calls (k : Nat) (a0_0 : Bool) (a0_1 : Int) (a0_2 : Int) (r1 : Bool) (r2 : Int) (r3 : Int) (w : World) (h : obolref03_Sure.f k a0_0 a0_1 a0_2 = some (r1, r2, r3)) :
    Calls Try.prog 15 #[.agg #[.bool a0_0, .int .u64 a0_1, .int .u64 a0_2]] w fun e w' => e = .returned (.agg #[.bool r1, .int .u64 r2, .int .u64 r3]) ∧ Below w.heap.size w w' := by
  have hu24 := Try.underlying24
  have HB := Aside0.mk (Below.refl w.heap.size w)
  have H : ((obolref03_Is.f k a0_0 a0_1 a0_2).bind fun t284 => (if t284 = true then (some (a0_0, a0_1, a0_2)) else (some (true, 0, 0)))) = some (r1, r2, r3) := h
  clear h
  replace H := Option.bind_eq_some_iff.mp H
  obtain ⟨t284, A20, H⟩ := H
  (try dsimp only at H)
  have A2 := Aside0.mk A20
  clear A20
  by_cases c3 : t284 = true
  · subst c3
    have H1 : (some (a0_0, a0_1, a0_2)) = some (r1, r2, r3) := by rw [if_pos rfl] at H; exact H
    clear H
    have H := H1
    clear H1
    simp only [Option.some.injEq, Prod.mk.injEq] at H
    obtain ⟨rfl, rfl, rfl⟩ := H
    go_enter Try.func15, Try.ntmps15
    go_wp2_with (first | ((with_reducible refine gate_dst (N := 1) rfl ?_); refine box_event ?hg (N := 1) ?hd (cs := #[.bool a0_0, .int .u64 a0_1, .int .u64 a0_2]) (t := 24) ?hr ?_; (case hd => rfl); (case hg => rfl); (case hr => first | (go_simp; done) | (go_simp; rfl)); intro gb282 hg w4 hbox hb; have n0_ := Aside0.mk (below_step bel_ hb); have n1_ := Aside0.mk (hbox); have n2_ := Aside0.mk ((by rw [hg]; exact (below_size bel_) : w.heap.size ≤ gb282)); have n3_ := Aside0.mk ((by rw [hg]; exact (below_size bel_) : w.heap.size ≤ gb282)); clear HB; have HB := n0_; have BK282 := n1_; have GW282 := n2_; have GE282 := n3_; clear n0_ n1_ n2_ n3_; clear hb hbox hg) | ((with_reducible refine gate_dst (N := 2) rfl ?_); refine box_event ?hg (N := 2) ?hd (cs := #[.bool false, .int .u64 0, .int .u64 0]) (t := 24) ?hr ?_; (case hd => rfl); (case hg => rfl); (case hr => first | (go_simp; done) | (go_simp; rfl)); intro gb283 hg w5 hbox hb; have n0_ := Aside0.mk (blk_below (g := gb282) (o := .cells #[.bool a0_0, .int .u64 a0_1, .int .u64 a0_2] 24 (0, 0)) blk_ hb); have n1_ := Aside0.mk (below_step bel_ hb); have n2_ := Aside0.mk (hbox); have n3_ := Aside0.mk ((by rw [hg]; exact (below_size bel_) : w.heap.size ≤ gb283)); have n4_ := Aside0.mk ((by rw [hg]; exact (below_size bel_) : w.heap.size ≤ gb283)); have n5_ := Aside0.mk ((by rw [hg]; exact Nat.ne_of_lt (blk_lt (g := gb282) (o := .cells #[.bool a0_0, .int .u64 a0_1, .int .u64 a0_2] 24 (0, 0)) blk_) : gb282 ≠ gb283)); have n6_ := Aside0.mk ((by rw [hg]; exact Nat.ne_of_gt (blk_lt (g := gb282) (o := .cells #[.bool a0_0, .int .u64 a0_1, .int .u64 a0_2] 24 (0, 0)) blk_) : gb283 ≠ gb282)); clear BK282; clear HB; have BK282 := n0_; have HB := n1_; have BK283 := n2_; have GW283 := n3_; have GE283 := n4_; have NB282_283 := n5_; have NB283_282 := n6_; clear n0_ n1_ n2_ n3_ n4_ n5_ n6_; clear hb hbox hg; have hnb6 := NB282_283.out; have hnc6 := NB283_282.out; have hcz7_0 : w5.cell? ⟨gb282, 0, none⟩ = some (.bool a0_0) := (blk_cell BK282.out 0).trans rfl; have hcz7_1 : w5.cell? ⟨gb282, 1, none⟩ = some (.int .u64 a0_1) := (blk_cell BK282.out 1).trans rfl; have hcz7_2 : w5.cell? ⟨gb282, 2, none⟩ = some (.int .u64 a0_2) := (blk_cell BK282.out 2).trans rfl; have hfz7_0 := blk_frozen BK282.out 0; have hfz7_1 := blk_frozen BK282.out 1; have hfz7_2 := blk_frozen BK282.out 2) | ((with_reducible refine gate_callee (f := 19) rfl ?_); refine goesL_ (some 5) rfl rfl Try.func19 (by kernel_rfl) rfl #[.agg #[.bool a0_0, .int .u64 a0_1, .int .u64 a0_2]] rfl lna_ ?_; (with_reducible refine (obolref03_Is.calls k a0_0 a0_1 a0_2 true _ A2.out).mono ?_); rintro e w8 ⟨rfl, hb⟩; refine ⟨_, rfl, ?_⟩; have n0_ := Aside0.mk (blk_below (g := gb282) (o := .cells #[.bool a0_0, .int .u64 a0_1, .int .u64 a0_2] 24 (0, 0)) blk_ hb); have n1_ := Aside0.mk (blk_below (g := gb283) (o := .cells #[.bool false, .int .u64 0, .int .u64 0] 24 (0, 0)) blk_ hb); have n2_ := Aside0.mk (below_step bel_ hb); clear BK282; clear BK283; clear HB; have BK282 := n0_; have BK283 := n1_; have HB := n2_; clear n0_ n1_ n2_; (try clear hb); (try clear hb2); (try clear hk); (try clear hi); have hcz9_0 : w8.cell? ⟨gb282, 0, none⟩ = some (.bool a0_0) := (blk_cell BK282.out 0).trans rfl; have hcz9_1 : w8.cell? ⟨gb282, 1, none⟩ = some (.int .u64 a0_1) := (blk_cell BK282.out 1).trans rfl; have hcz9_2 : w8.cell? ⟨gb282, 2, none⟩ = some (.int .u64 a0_2) := (blk_cell BK282.out 2).trans rfl; have hfz9_0 := blk_frozen BK282.out 0; have hfz9_1 := blk_frozen BK282.out 1; have hfz9_2 := blk_frozen BK282.out 2; have hcz10_0 : w8.cell? ⟨gb283, 0, none⟩ = some (.bool false) := (blk_cell BK283.out 0).trans rfl; have hcz10_1 : w8.cell? ⟨gb283, 1, none⟩ = some (.int .u64 0) := (blk_cell BK283.out 1).trans rfl; have hcz10_2 : w8.cell? ⟨gb283, 2, none⟩ = some (.int .u64 0) := (blk_cell BK283.out 2).trans rfl; have hfz10_0 := blk_frozen BK283.out 0; have hfz10_1 := blk_frozen BK283.out 1; have hfz10_2 := blk_frozen BK283.out 2))
    refine bodyPost_ret (results_cell_row rfl _ _ gb283 24 #[.bool a0_0, .int .u64 a0_1, .int .u64 a0_2] (0, 0) _ rfl (by (with_reducible repeat (first | refine blk_drewN ?_ _ | refine blk_drew ?_ | refine blk_alloc ?_ _)); refine blk_put (cs := #[.bool a0_0, .int .u64 a0_1, .int .u64 0]) ?_ 2 _ rfl; (with_reducible repeat (first | refine blk_drewN ?_ _ | refine blk_drew ?_ | refine blk_alloc ?_ _)); refine blk_put (cs := #[.bool a0_0, .int .u64 0, .int .u64 0]) ?_ 1 _ rfl; (with_reducible repeat (first | refine blk_drewN ?_ _ | refine blk_drew ?_ | refine blk_alloc ?_ _)); refine blk_put (cs := #[.bool false, .int .u64 0, .int .u64 0]) ?_ 0 _ rfl; exact blk_) Try.underlying24 rfl (by kernel_rfl)) rfl ?_
    exact ⟨by first | rfl | (simp [errW_none, errW_some] <;> rfl) | (simp [*, errW_none, errW_some] <;> rfl), bel_⟩
  · replace c3 := Bool.eq_false_iff.mpr c3
    subst c3
    have H1 : (some (true, 0, 0)) = some (r1, r2, r3) := by rw [if_neg (show ¬ (false = true) by decide)] at H; exact H
    clear H
    have H := H1
    clear H1
    simp only [Option.some.injEq, Prod.mk.injEq] at H
    obtain ⟨rfl, rfl, rfl⟩ := H
    go_enter Try.func15, Try.ntmps15
    go_wp2_with (first | ((with_reducible refine gate_dst (N := 1) rfl ?_); refine box_event ?hg (N := 1) ?hd (cs := #[.bool a0_0, .int .u64 a0_1, .int .u64 a0_2]) (t := 24) ?hr ?_; (case hd => rfl); (case hg => rfl); (case hr => first | (go_simp; done) | (go_simp; rfl)); intro gb282 hg w11 hbox hb; have n0_ := Aside0.mk (below_step bel_ hb); have n1_ := Aside0.mk (hbox); have n2_ := Aside0.mk ((by rw [hg]; exact (below_size bel_) : w.heap.size ≤ gb282)); have n3_ := Aside0.mk ((by rw [hg]; exact (below_size bel_) : w.heap.size ≤ gb282)); clear HB; have HB := n0_; have BK282 := n1_; have GW282 := n2_; have GE282 := n3_; clear n0_ n1_ n2_ n3_; clear hb hbox hg) | ((with_reducible refine gate_dst (N := 2) rfl ?_); refine box_event ?hg (N := 2) ?hd (cs := #[.bool false, .int .u64 0, .int .u64 0]) (t := 24) ?hr ?_; (case hd => rfl); (case hg => rfl); (case hr => first | (go_simp; done) | (go_simp; rfl)); intro gb283 hg w12 hbox hb; have n0_ := Aside0.mk (blk_below (g := gb282) (o := .cells #[.bool a0_0, .int .u64 a0_1, .int .u64 a0_2] 24 (0, 0)) blk_ hb); have n1_ := Aside0.mk (below_step bel_ hb); have n2_ := Aside0.mk (hbox); have n3_ := Aside0.mk ((by rw [hg]; exact (below_size bel_) : w.heap.size ≤ gb283)); have n4_ := Aside0.mk ((by rw [hg]; exact (below_size bel_) : w.heap.size ≤ gb283)); have n5_ := Aside0.mk ((by rw [hg]; exact Nat.ne_of_lt (blk_lt (g := gb282) (o := .cells #[.bool a0_0, .int .u64 a0_1, .int .u64 a0_2] 24 (0, 0)) blk_) : gb282 ≠ gb283)); have n6_ := Aside0.mk ((by rw [hg]; exact Nat.ne_of_gt (blk_lt (g := gb282) (o := .cells #[.bool a0_0, .int .u64 a0_1, .int .u64 a0_2] 24 (0, 0)) blk_) : gb283 ≠ gb282)); clear BK282; clear HB; have BK282 := n0_; have HB := n1_; have BK283 := n2_; have GW283 := n3_; have GE283 := n4_; have NB282_283 := n5_; have NB283_282 := n6_; clear n0_ n1_ n2_ n3_ n4_ n5_ n6_; clear hb hbox hg; have hnb13 := NB282_283.out; have hnc13 := NB283_282.out; have hcz14_0 : w12.cell? ⟨gb282, 0, none⟩ = some (.bool a0_0) := (blk_cell BK282.out 0).trans rfl; have hcz14_1 : w12.cell? ⟨gb282, 1, none⟩ = some (.int .u64 a0_1) := (blk_cell BK282.out 1).trans rfl; have hcz14_2 : w12.cell? ⟨gb282, 2, none⟩ = some (.int .u64 a0_2) := (blk_cell BK282.out 2).trans rfl; have hfz14_0 := blk_frozen BK282.out 0; have hfz14_1 := blk_frozen BK282.out 1; have hfz14_2 := blk_frozen BK282.out 2) | ((with_reducible refine gate_callee (f := 19) rfl ?_); refine goesL_ (some 5) rfl rfl Try.func19 (by kernel_rfl) rfl #[.agg #[.bool a0_0, .int .u64 a0_1, .int .u64 a0_2]] rfl lna_ ?_; (with_reducible refine (obolref03_Is.calls k a0_0 a0_1 a0_2 false _ A2.out).mono ?_); rintro e w15 ⟨rfl, hb⟩; refine ⟨_, rfl, ?_⟩; have n0_ := Aside0.mk (blk_below (g := gb282) (o := .cells #[.bool a0_0, .int .u64 a0_1, .int .u64 a0_2] 24 (0, 0)) blk_ hb); have n1_ := Aside0.mk (blk_below (g := gb283) (o := .cells #[.bool false, .int .u64 0, .int .u64 0] 24 (0, 0)) blk_ hb); have n2_ := Aside0.mk (below_step bel_ hb); clear BK282; clear BK283; clear HB; have BK282 := n0_; have BK283 := n1_; have HB := n2_; clear n0_ n1_ n2_; (try clear hb); (try clear hb2); (try clear hk); (try clear hi); have hcz16_0 : w15.cell? ⟨gb283, 0, none⟩ = some (.bool false) := (blk_cell BK283.out 0).trans rfl; have hcz16_1 : w15.cell? ⟨gb283, 1, none⟩ = some (.int .u64 0) := (blk_cell BK283.out 1).trans rfl; have hcz16_2 : w15.cell? ⟨gb283, 2, none⟩ = some (.int .u64 0) := (blk_cell BK283.out 2).trans rfl; have hfz16_0 := blk_frozen BK283.out 0; have hfz16_1 := blk_frozen BK283.out 1; have hfz16_2 := blk_frozen BK283.out 2))
    refine bodyPost_ret (results_cell_row rfl _ _ gb283 24 #[.bool true, .int .u64 0, .int .u64 0] (0, 0) _ rfl (by (with_reducible repeat (first | refine blk_drewN ?_ _ | refine blk_drew ?_ | refine blk_alloc ?_ _)); refine blk_put (cs := #[.bool true, .int .u64 0, .int .u64 0]) ?_ 2 _ rfl; (with_reducible repeat (first | refine blk_drewN ?_ _ | refine blk_drew ?_ | refine blk_alloc ?_ _)); refine blk_put (cs := #[.bool true, .int .u64 0, .int .u64 0]) ?_ 1 _ rfl; (with_reducible repeat (first | refine blk_drewN ?_ _ | refine blk_drew ?_ | refine blk_alloc ?_ _)); refine blk_put (cs := #[.bool false, .int .u64 0, .int .u64 0]) ?_ 0 _ rfl; exact blk_) Try.underlying24 rfl (by kernel_rfl)) rfl ?_
    exact ⟨by first | rfl | (simp [errW_none, errW_some] <;> rfl) | (simp [*, errW_none, errW_some] <;> rfl), bel_⟩

/-! ### obolref03_Gen: function 31 -/
def obolref03_Gen.f  : Option (Bool × Int × Int) := some (false, 247390119040843104, 830327839767444578)
set_option maxHeartbeats 8000000 in
set_option maxRecDepth 100000 in
theorem obolref03_Gen.calls  (r1 : Bool) (r2 : Int) (r3 : Int) (w : World) (h : obolref03_Gen.f  = some (r1, r2, r3)) :
    Calls Try.prog 31 #[] w fun e w' => e = .returned (.agg #[.bool r1, .int .u64 r2, .int .u64 r3]) ∧ Below w.heap.size w w' := by
  have hu24 := Try.underlying24
  have HB := Aside0.mk (Below.refl w.heap.size w)
  have H : (some (false, 247390119040843104, 830327839767444578)) = some (r1, r2, r3) := h
  clear h
  simp only [Option.some.injEq, Prod.mk.injEq] at H
  obtain ⟨rfl, rfl, rfl⟩ := H
  go_enter Try.func31, Try.ntmps31
  go_wp2_with (first | ((with_reducible refine gate_dst (N := 0) rfl ?_); refine box_event ?hg (N := 0) ?hd (cs := #[.bool false, .int .u64 0, .int .u64 0]) (t := 24) ?hr ?_; (case hd => rfl); (case hg => rfl); (case hr => first | (go_simp; done) | (go_simp; rfl)); intro gb285 hg w1 hbox hb; have n0_ := Aside0.mk (below_step bel_ hb); have n1_ := Aside0.mk (hbox); have n2_ := Aside0.mk ((by rw [hg]; exact (below_size bel_) : w.heap.size ≤ gb285)); have n3_ := Aside0.mk ((by rw [hg]; exact (below_size bel_) : w.heap.size ≤ gb285)); clear HB; have HB := n0_; have BK285 := n1_; have GW285 := n2_; have GE285 := n3_; clear n0_ n1_ n2_ n3_; clear hb hbox hg; have hcz2_0 : w1.cell? ⟨gb285, 0, none⟩ = some (.bool false) := (blk_cell BK285.out 0).trans rfl; have hcz2_1 : w1.cell? ⟨gb285, 1, none⟩ = some (.int .u64 0) := (blk_cell BK285.out 1).trans rfl; have hcz2_2 : w1.cell? ⟨gb285, 2, none⟩ = some (.int .u64 0) := (blk_cell BK285.out 2).trans rfl; have hfz2_0 := blk_frozen BK285.out 0; have hfz2_1 := blk_frozen BK285.out 1; have hfz2_2 := blk_frozen BK285.out 2))
  refine bodyPost_ret (results_cell_row rfl _ _ gb285 24 #[.bool false, .int .u64 247390119040843104, .int .u64 830327839767444578] (0, 0) _ rfl (by (with_reducible repeat (first | refine blk_drewN ?_ _ | refine blk_drew ?_ | refine blk_alloc ?_ _)); refine blk_put (cs := #[.bool false, .int .u64 247390119040843104, .int .u64 0]) ?_ 2 _ rfl; (with_reducible repeat (first | refine blk_drewN ?_ _ | refine blk_drew ?_ | refine blk_alloc ?_ _)); refine blk_put (cs := #[.bool false, .int .u64 0, .int .u64 0]) ?_ 1 _ rfl; (with_reducible repeat (first | refine blk_drewN ?_ _ | refine blk_drew ?_ | refine blk_alloc ?_ _)); refine blk_put (cs := #[.bool false, .int .u64 0, .int .u64 0]) ?_ 0 _ rfl; exact blk_) Try.underlying24 rfl (by kernel_rfl)) rfl ?_
  exact ⟨by first | rfl | (simp [errW_none, errW_some] <;> rfl) | (simp [*, errW_none, errW_some] <;> rfl), bel_⟩

end Go.Proofs.Ytibmidoepeghpaa.PCur
