-- written for this claim by a program of this session (an adapted printer)
import Derived.Test.YtibmidoepeghpaaZPCurx0
import Derived.Test.YtibmidoepeghpaaZPCurx1
import Derived.Test.YtibmidoepeghpaaZPCurx3
import Derived.Test.YtibmidoepeghpaaZPCurx4
namespace Go.Proofs.Ytibmidoepeghpaa.PCur
open Go.Proofs.Ytibmidoepeghpaa.G
open Go.Proofs.Ytibmidoepeghpaa.PMod (errW errW_none errW_some)
open Go.RowKit Go.Proofs.YtibmidoepeghpaaW.PrintWords Go.Proofs.YtibmidoepeghpaaW.PrintLast Go.Proofs.YtibmidoepeghpaaW.PrintMore
attribute [local go_sem] max2_int min2_int max_two min_two max_three min_three max_four min_four   -- for this text's walks alone
set_option linter.unusedVariables false
set_option linter.unusedSimpArgs false

/-! ### curve_Mul: function 21 -/
def curve_Mul.l0 : Nat → Int → Int → Bool → Int → Int → Int → Int → Int → Option (Bool × Int × Int)
  | 0, _, _, _, _, _, _, _, _ => none
  | k + 1, x1, x6, x204000, x204001, x204002, x209000, x209001, x209002 => if x6 ≥ 0 then (if x209002 > 0 then ((curve_twice.f x209000 x209001 x209002).bind fun bt209 => (if 0 ≤ x6 then (if (Go.bits .and .u64 (shr .u64 x1 x6) 1) = 1 then ((curve_more.f k bt209.1 bt209.2.1 bt209.2.2 x204000 x204001 x204002).bind fun bt212 => (curve_Mul.l0 k x1 (wrap64 (x6 - 1)) x204000 x204001 x204002 bt212.1 bt212.2.1 bt212.2.2)) else (curve_Mul.l0 k x1 (wrap64 (x6 - 1)) x204000 x204001 x204002 bt209.1 bt209.2.1 bt209.2.2)) else (none))) else (if 0 ≤ x6 then (if (Go.bits .and .u64 (shr .u64 x1 x6) 1) = 1 then ((curve_more.f k x209000 x209001 x209002 x204000 x204001 x204002).bind fun bt215 => (curve_Mul.l0 k x1 (wrap64 (x6 - 1)) x204000 x204001 x204002 bt215.1 bt215.2.1 bt215.2.2)) else (curve_Mul.l0 k x1 (wrap64 (x6 - 1)) x204000 x204001 x204002 x209000 x209001 x209002)) else (none))) else ((modular_Inv.f 1152921505151057923 x209002).bind fun bt218 => (if bt218.2.isNone = true then ((curve_mul.f bt218.1 bt218.1).bind fun t221 => ((curve_mul.f x209000 t221).bind fun t222 => ((curve_mul.f t221 bt218.1).bind fun t223 => ((curve_mul.f x209001 t223).bind fun t224 => (some (false, t222, t224)))))) else ((curve_inf.f).bind fun bt225 => (some (bt225.1, bt225.2.1, bt225.2.2)))))
def curve_Mul.f (k : Nat) (a0_0 : Bool) (a0_1 : Int) (a0_2 : Int) (a1 : Int) : Option (Bool × Int × Int) := (curve_sure.f a0_0 a0_1 a0_2).bind fun bt205 => (if bt205.1 = true then (some (bt205.1, bt205.2.1, bt205.2.2)) else (curve_Mul.l0 k a1 63 bt205.1 bt205.2.1 bt205.2.2 0 0 0))
def curve_Mul.T16 : Bool × List (List Nat × List Nat) := (true, [([], []), ([0], [0]), ([], []), ([1, 2], [1, 2]), ([], []), ([4], [4]), ([], []), ([], []), ([6, 7, 3], [6, 7]), ([5, 8, 8], [5, 8]), ([3, 9], [3, 9]), ([10, 9, 0, 1, 2, 3, 4, 5, 6, 7, 8, 9, 10], [10])])
def curve_Mul.B16 : List Nat := [0, 1, 0, 7, 0, 16, 0, 0, 207, 511, 1023, 2047]
theorem curve_Mul.tab16 : rtab .any (opsOf Try.f21 16) = curve_Mul.T16 := by kernel_rfl
theorem curve_Mul.bits16 : waitsOk curve_Mul.T16.2 curve_Mul.B16 = true := by kernel_rfl
set_option maxHeartbeats 8000000 in
set_option maxRecDepth 100000 in
theorem curve_Mul.calls (k : Nat) (a0_0 : Bool) (a0_1 : Int) (a0_2 : Int) (a1 : Int) (r1 : Bool) (r2 : Int) (r3 : Int) (w : World) (h : curve_Mul.f k a0_0 a0_1 a0_2 a1 = some (r1, r2, r3)) :
    Calls Try.prog 21 #[.agg #[.bool a0_0, .int .u64 a0_1, .int .u64 a0_2], .int .u64 a1] w fun e w' => e = .returned (.agg #[.bool r1, .int .u64 r2, .int .u64 r3]) ∧ Below w.heap.size w w' := by
  have hu24 := Try.underlying24
  have hu63 := Try.underlying63
  have hu35 := Try.underlying35
  have HB := Aside0.mk (Below.refl w.heap.size w)
  have H : ((curve_sure.f a0_0 a0_1 a0_2).bind fun bt205 => (if bt205.1 = true then (some (bt205.1, bt205.2.1, bt205.2.2)) else (curve_Mul.l0 k a1 63 bt205.1 bt205.2.1 bt205.2.2 0 0 0))) = some (r1, r2, r3) := h
  clear h
  replace H := Option.bind_eq_some_iff.mp H
  obtain ⟨⟨t205, t206, t207⟩, A30, H⟩ := H
  (try dsimp only at H)
  have A3 := Aside0.mk A30
  clear A30
  by_cases c4 : t205 = true
  · subst c4
    have H1 : (some (true, t206, t207)) = some (r1, r2, r3) := by rw [if_pos rfl] at H; exact H
    clear H
    have H := H1
    clear H1
    simp only [Option.some.injEq, Prod.mk.injEq] at H
    obtain ⟨rfl, rfl, rfl⟩ := H
    go_enter Try.func21, Try.ntmps21
    go_wp2_with (first | ((with_reducible refine gate_dst (N := 2) rfl ?_); refine box_event ?hg (N := 2) ?hd (cs := #[.bool a0_0, .int .u64 a0_1, .int .u64 a0_2]) (t := 24) ?hr ?_; (case hd => rfl); (case hg => rfl); (case hr => first | (go_simp; done) | (go_simp; rfl)); intro gb203 hg w5 hbox hb; have n0_ := Aside0.mk (below_step bel_ hb); have n1_ := Aside0.mk (hbox); have n2_ := Aside0.mk ((by rw [hg]; exact (below_size bel_) : w.heap.size ≤ gb203)); have n3_ := Aside0.mk ((by rw [hg]; exact (below_size bel_) : w.heap.size ≤ gb203)); clear HB; have HB := n0_; have BK203 := n1_; have GW203 := n2_; have GE203 := n3_; clear n0_ n1_ n2_ n3_; clear hb hbox hg) | ((with_reducible refine gate_dst (N := 4) rfl ?_); refine box_event ?hg (N := 4) ?hd (cs := #[.bool false, .int .u64 0, .int .u64 0]) (t := 24) ?hr ?_; (case hd => rfl); (case hg => rfl); (case hr => first | (go_simp; done) | (go_simp; rfl)); intro gb204 hg w6 hbox hb; have n0_ := Aside0.mk (blk_below (g := gb203) (o := .cells #[.bool a0_0, .int .u64 a0_1, .int .u64 a0_2] 24 (0, 0)) blk_ hb); have n1_ := Aside0.mk (below_step bel_ hb); have n2_ := Aside0.mk (hbox); have n3_ := Aside0.mk ((by rw [hg]; exact (below_size bel_) : w.heap.size ≤ gb204)); have n4_ := Aside0.mk ((by rw [hg]; exact (below_size bel_) : w.heap.size ≤ gb204)); have n5_ := Aside0.mk ((by rw [hg]; exact Nat.ne_of_lt (blk_lt (g := gb203) (o := .cells #[.bool a0_0, .int .u64 a0_1, .int .u64 a0_2] 24 (0, 0)) blk_) : gb203 ≠ gb204)); have n6_ := Aside0.mk ((by rw [hg]; exact Nat.ne_of_gt (blk_lt (g := gb203) (o := .cells #[.bool a0_0, .int .u64 a0_1, .int .u64 a0_2] 24 (0, 0)) blk_) : gb204 ≠ gb203)); clear BK203; clear HB; have BK203 := n0_; have HB := n1_; have BK204 := n2_; have GW204 := n3_; have GE204 := n4_; have NB203_204 := n5_; have NB204_203 := n6_; clear n0_ n1_ n2_ n3_ n4_ n5_ n6_; clear hb hbox hg; have hnb7 := NB203_204.out; have hnc7 := NB204_203.out; have hcz8_0 : w6.cell? ⟨gb203, 0, none⟩ = some (.bool a0_0) := (blk_cell BK203.out 0).trans rfl; have hcz8_1 : w6.cell? ⟨gb203, 1, none⟩ = some (.int .u64 a0_1) := (blk_cell BK203.out 1).trans rfl; have hcz8_2 : w6.cell? ⟨gb203, 2, none⟩ = some (.int .u64 a0_2) := (blk_cell BK203.out 2).trans rfl; have hfz8_0 := blk_frozen BK203.out 0; have hfz8_1 := blk_frozen BK203.out 1; have hfz8_2 := blk_frozen BK203.out 2) | ((with_reducible refine gate_callee (f := 40) rfl ?_); refine goesL_ (some 11) rfl rfl Try.func40 (by kernel_rfl) rfl #[.agg #[.bool a0_0, .int .u64 a0_1, .int .u64 a0_2]] rfl lna_ ?_; (with_reducible refine (curve_sure.calls a0_0 a0_1 a0_2 true t206 t207 _ A3.out).mono ?_); rintro e w9 ⟨rfl, hb⟩; refine ⟨_, rfl, ?_⟩; have n0_ := Aside0.mk (blk_below (g := gb203) (o := .cells #[.bool a0_0, .int .u64 a0_1, .int .u64 a0_2] 24 (0, 0)) blk_ hb); have n1_ := Aside0.mk (blk_below (g := gb204) (o := .cells #[.bool false, .int .u64 0, .int .u64 0] 24 (0, 0)) blk_ hb); have n2_ := Aside0.mk (below_step bel_ hb); clear BK203; clear BK204; clear HB; have BK203 := n0_; have BK204 := n1_; have HB := n2_; clear n0_ n1_ n2_; (try clear hb); (try clear hb2); (try clear hk); (try clear hi); have hcz10_0 : w9.cell? ⟨gb203, 0, none⟩ = some (.bool a0_0) := (blk_cell BK203.out 0).trans rfl; have hcz10_1 : w9.cell? ⟨gb203, 1, none⟩ = some (.int .u64 a0_1) := (blk_cell BK203.out 1).trans rfl; have hcz10_2 : w9.cell? ⟨gb203, 2, none⟩ = some (.int .u64 a0_2) := (blk_cell BK203.out 2).trans rfl; have hfz10_0 := blk_frozen BK203.out 0; have hfz10_1 := blk_frozen BK203.out 1; have hfz10_2 := blk_frozen BK203.out 2; have hcz11_0 : w9.cell? ⟨gb204, 0, none⟩ = some (.bool false) := (blk_cell BK204.out 0).trans rfl; have hcz11_1 : w9.cell? ⟨gb204, 1, none⟩ = some (.int .u64 0) := (blk_cell BK204.out 1).trans rfl; have hcz11_2 : w9.cell? ⟨gb204, 2, none⟩ = some (.int .u64 0) := (blk_cell BK204.out 2).trans rfl; have hfz11_0 := blk_frozen BK204.out 0; have hfz11_1 := blk_frozen BK204.out 1; have hfz11_2 := blk_frozen BK204.out 2))
    refine bodyPost_ret (results_cell_row rfl _ _ gb204 24 #[.bool true, .int .u64 t206, .int .u64 t207] (0, 0) _ rfl (by (with_reducible repeat (first | refine blk_drewN ?_ _ | refine blk_drew ?_ | refine blk_alloc ?_ _)); refine blk_put (cs := #[.bool true, .int .u64 t206, .int .u64 0]) ?_ 2 _ rfl; (with_reducible repeat (first | refine blk_drewN ?_ _ | refine blk_drew ?_ | refine blk_alloc ?_ _)); refine blk_put (cs := #[.bool true, .int .u64 0, .int .u64 0]) ?_ 1 _ rfl; (with_reducible repeat (first | refine blk_drewN ?_ _ | refine blk_drew ?_ | refine blk_alloc ?_ _)); refine blk_put (cs := #[.bool false, .int .u64 0, .int .u64 0]) ?_ 0 _ rfl; (with_reducible repeat (first | refine blk_drewN ?_ _ | refine blk_drew ?_ | refine blk_alloc ?_ _)); refine blk_far ?_ NB204_203.out _; (with_reducible repeat (first | refine blk_drewN ?_ _ | refine blk_drew ?_ | refine blk_alloc ?_ _)); refine blk_far ?_ NB204_203.out _; (with_reducible repeat (first | refine blk_drewN ?_ _ | refine blk_drew ?_ | refine blk_alloc ?_ _)); refine blk_far ?_ NB204_203.out _; exact blk_) Try.underlying24 rfl (by kernel_rfl)) rfl ?_
    exact ⟨by first | rfl | (simp [errW_none, errW_some] <;> rfl) | (simp [*, errW_none, errW_some] <;> rfl), bel_⟩
  · replace c4 := Bool.eq_false_iff.mpr c4
    subst c4
    have H1 : (curve_Mul.l0 k a1 63 false t206 t207 0 0 0) = some (r1, r2, r3) := by rw [if_neg (show ¬ (false = true) by decide)] at H; exact H
    clear H
    have H := H1
    clear H1
    have H' := Aside0.mk H
    clear H
    go_enter Try.func21, Try.ntmps21
    go_wp2_with (first | ((with_reducible refine gate_dst (N := 2) rfl ?_); refine box_event ?hg (N := 2) ?hd (cs := #[.bool a0_0, .int .u64 a0_1, .int .u64 a0_2]) (t := 24) ?hr ?_; (case hd => rfl); (case hg => rfl); (case hr => first | (go_simp; done) | (go_simp; rfl)); intro gb203 hg w12 hbox hb; have n0_ := Aside0.mk (below_step bel_ hb); have n1_ := Aside0.mk (hbox); have n2_ := Aside0.mk ((by rw [hg]; exact (below_size bel_) : w.heap.size ≤ gb203)); have n3_ := Aside0.mk ((by rw [hg]; exact (below_size bel_) : w.heap.size ≤ gb203)); clear HB; have HB := n0_; have BK203 := n1_; have GW203 := n2_; have GE203 := n3_; clear n0_ n1_ n2_ n3_; clear hb hbox hg) | ((with_reducible refine gate_dst (N := 4) rfl ?_); refine box_event ?hg (N := 4) ?hd (cs := #[.bool false, .int .u64 0, .int .u64 0]) (t := 24) ?hr ?_; (case hd => rfl); (case hg => rfl); (case hr => first | (go_simp; done) | (go_simp; rfl)); intro gb204 hg w13 hbox hb; have n0_ := Aside0.mk (blk_below (g := gb203) (o := .cells #[.bool a0_0, .int .u64 a0_1, .int .u64 a0_2] 24 (0, 0)) blk_ hb); have n1_ := Aside0.mk (below_step bel_ hb); have n2_ := Aside0.mk (hbox); have n3_ := Aside0.mk ((by rw [hg]; exact (below_size bel_) : w.heap.size ≤ gb204)); have n4_ := Aside0.mk ((by rw [hg]; exact (below_size bel_) : w.heap.size ≤ gb204)); have n5_ := Aside0.mk ((by rw [hg]; exact Nat.ne_of_lt (blk_lt (g := gb203) (o := .cells #[.bool a0_0, .int .u64 a0_1, .int .u64 a0_2] 24 (0, 0)) blk_) : gb203 ≠ gb204)); have n6_ := Aside0.mk ((by rw [hg]; exact Nat.ne_of_gt (blk_lt (g := gb203) (o := .cells #[.bool a0_0, .int .u64 a0_1, .int .u64 a0_2] 24 (0, 0)) blk_) : gb204 ≠ gb203)); clear BK203; clear HB; have BK203 := n0_; have HB := n1_; have BK204 := n2_; have GW204 := n3_; have GE204 := n4_; have NB203_204 := n5_; have NB204_203 := n6_; clear n0_ n1_ n2_ n3_ n4_ n5_ n6_; clear hb hbox hg; have hnb14 := NB203_204.out; have hnc14 := NB204_203.out; have hcz15_0 : w13.cell? ⟨gb203, 0, none⟩ = some (.bool a0_0) := (blk_cell BK203.out 0).trans rfl; have hcz15_1 : w13.cell? ⟨gb203, 1, none⟩ = some (.int .u64 a0_1) := (blk_cell BK203.out 1).trans rfl; have hcz15_2 : w13.cell? ⟨gb203, 2, none⟩ = some (.int .u64 a0_2) := (blk_cell BK203.out 2).trans rfl; have hfz15_0 := blk_frozen BK203.out 0; have hfz15_1 := blk_frozen BK203.out 1; have hfz15_2 := blk_frozen BK203.out 2) | ((with_reducible refine gate_callee (f := 40) rfl ?_); refine goesL_ (some 11) rfl rfl Try.func40 (by kernel_rfl) rfl #[.agg #[.bool a0_0, .int .u64 a0_1, .int .u64 a0_2]] rfl lna_ ?_; (with_reducible refine (curve_sure.calls a0_0 a0_1 a0_2 false t206 t207 _ A3.out).mono ?_); rintro e w16 ⟨rfl, hb⟩; refine ⟨_, rfl, ?_⟩; have n0_ := Aside0.mk (blk_below (g := gb203) (o := .cells #[.bool a0_0, .int .u64 a0_1, .int .u64 a0_2] 24 (0, 0)) blk_ hb); have n1_ := Aside0.mk (blk_below (g := gb204) (o := .cells #[.bool false, .int .u64 0, .int .u64 0] 24 (0, 0)) blk_ hb); have n2_ := Aside0.mk (below_step bel_ hb); clear BK203; clear BK204; clear HB; have BK203 := n0_; have BK204 := n1_; have HB := n2_; clear n0_ n1_ n2_; (try clear hb); (try clear hb2); (try clear hk); (try clear hi); have hcz17_0 : w16.cell? ⟨gb203, 0, none⟩ = some (.bool a0_0) := (blk_cell BK203.out 0).trans rfl; have hcz17_1 : w16.cell? ⟨gb203, 1, none⟩ = some (.int .u64 a0_1) := (blk_cell BK203.out 1).trans rfl; have hcz17_2 : w16.cell? ⟨gb203, 2, none⟩ = some (.int .u64 a0_2) := (blk_cell BK203.out 2).trans rfl; have hfz17_0 := blk_frozen BK203.out 0; have hfz17_1 := blk_frozen BK203.out 1; have hfz17_2 := blk_frozen BK203.out 2) | ((with_reducible refine gate_dst (N := 5) rfl ?_); refine box_event ?hg (N := 5) ?hd (cs := #[.int .u64 0, .int .u64 0, .int .u64 0]) (t := 63) ?hr ?_; (case hd => rfl); (case hg => rfl); (case hr => first | (go_simp; done) | (go_simp; rfl)); intro gb208 hg w18 hbox hb; have n0_ := Aside0.mk (blk_below (g := gb203) (o := .cells #[.bool false, .int .u64 t206, .int .u64 t207] 24 (0, 0)) (by (with_reducible repeat (first | refine blk_drewN ?_ _ | refine blk_drew ?_ | refine blk_alloc ?_ _)); refine blk_put (cs := #[.bool false, .int .u64 t206, .int .u64 a0_2]) ?_ 2 _ rfl; (with_reducible repeat (first | refine blk_drewN ?_ _ | refine blk_drew ?_ | refine blk_alloc ?_ _)); refine blk_put (cs := #[.bool false, .int .u64 a0_1, .int .u64 a0_2]) ?_ 1 _ rfl; (with_reducible repeat (first | refine blk_drewN ?_ _ | refine blk_drew ?_ | refine blk_alloc ?_ _)); refine blk_put (cs := #[.bool a0_0, .int .u64 a0_1, .int .u64 a0_2]) ?_ 0 _ rfl; exact blk_) hb); have n1_ := Aside0.mk (blk_below (g := gb204) (o := .cells #[.bool false, .int .u64 0, .int .u64 0] 24 (0, 0)) (by (with_reducible repeat (first | refine blk_drewN ?_ _ | refine blk_drew ?_ | refine blk_alloc ?_ _)); refine blk_far ?_ NB204_203.out _; (with_reducible repeat (first | refine blk_drewN ?_ _ | refine blk_drew ?_ | refine blk_alloc ?_ _)); refine blk_far ?_ NB204_203.out _; (with_reducible repeat (first | refine blk_drewN ?_ _ | refine blk_drew ?_ | refine blk_alloc ?_ _)); refine blk_far ?_ NB204_203.out _; exact blk_) hb); have n2_ := Aside0.mk (below_step bel_ hb); have n3_ := Aside0.mk (hbox); have n4_ := Aside0.mk ((by rw [hg]; exact (below_size bel_) : w.heap.size ≤ gb208)); have n5_ := Aside0.mk ((by rw [hg]; exact (below_size bel_) : w.heap.size ≤ gb208)); have n6_ := Aside0.mk ((by rw [hg]; exact Nat.ne_of_lt (blk_lt (g := gb203) (o := .cells #[.bool false, .int .u64 t206, .int .u64 t207] 24 (0, 0)) (by (with_reducible repeat (first | refine blk_drewN ?_ _ | refine blk_drew ?_ | refine blk_alloc ?_ _)); refine blk_put (cs := #[.bool false, .int .u64 t206, .int .u64 a0_2]) ?_ 2 _ rfl; (with_reducible repeat (first | refine blk_drewN ?_ _ | refine blk_drew ?_ | refine blk_alloc ?_ _)); refine blk_put (cs := #[.bool false, .int .u64 a0_1, .int .u64 a0_2]) ?_ 1 _ rfl; (with_reducible repeat (first | refine blk_drewN ?_ _ | refine blk_drew ?_ | refine blk_alloc ?_ _)); refine blk_put (cs := #[.bool a0_0, .int .u64 a0_1, .int .u64 a0_2]) ?_ 0 _ rfl; exact blk_)) : gb203 ≠ gb208)); have n7_ := Aside0.mk ((by rw [hg]; exact Nat.ne_of_gt (blk_lt (g := gb203) (o := .cells #[.bool false, .int .u64 t206, .int .u64 t207] 24 (0, 0)) (by (with_reducible repeat (first | refine blk_drewN ?_ _ | refine blk_drew ?_ | refine blk_alloc ?_ _)); refine blk_put (cs := #[.bool false, .int .u64 t206, .int .u64 a0_2]) ?_ 2 _ rfl; (with_reducible repeat (first | refine blk_drewN ?_ _ | refine blk_drew ?_ | refine blk_alloc ?_ _)); refine blk_put (cs := #[.bool false, .int .u64 a0_1, .int .u64 a0_2]) ?_ 1 _ rfl; (with_reducible repeat (first | refine blk_drewN ?_ _ | refine blk_drew ?_ | refine blk_alloc ?_ _)); refine blk_put (cs := #[.bool a0_0, .int .u64 a0_1, .int .u64 a0_2]) ?_ 0 _ rfl; exact blk_)) : gb208 ≠ gb203)); have n8_ := Aside0.mk ((by rw [hg]; exact Nat.ne_of_lt (blk_lt (g := gb204) (o := .cells #[.bool false, .int .u64 0, .int .u64 0] 24 (0, 0)) (by (with_reducible repeat (first | refine blk_drewN ?_ _ | refine blk_drew ?_ | refine blk_alloc ?_ _)); refine blk_far ?_ NB204_203.out _; (with_reducible repeat (first | refine blk_drewN ?_ _ | refine blk_drew ?_ | refine blk_alloc ?_ _)); refine blk_far ?_ NB204_203.out _; (with_reducible repeat (first | refine blk_drewN ?_ _ | refine blk_drew ?_ | refine blk_alloc ?_ _)); refine blk_far ?_ NB204_203.out _; exact blk_)) : gb204 ≠ gb208)); have n9_ := Aside0.mk ((by rw [hg]; exact Nat.ne_of_gt (blk_lt (g := gb204) (o := .cells #[.bool false, .int .u64 0, .int .u64 0] 24 (0, 0)) (by (with_reducible repeat (first | refine blk_drewN ?_ _ | refine blk_drew ?_ | refine blk_alloc ?_ _)); refine blk_far ?_ NB204_203.out _; (with_reducible repeat (first | refine blk_drewN ?_ _ | refine blk_drew ?_ | refine blk_alloc ?_ _)); refine blk_far ?_ NB204_203.out _; (with_reducible repeat (first | refine blk_drewN ?_ _ | refine blk_drew ?_ | refine blk_alloc ?_ _)); refine blk_far ?_ NB204_203.out _; exact blk_)) : gb208 ≠ gb204)); clear BK203; clear BK204; clear HB; have BK203 := n0_; have BK204 := n1_; have HB := n2_; have BK208 := n3_; have GW208 := n4_; have GE208 := n5_; have NB203_208 := n6_; have NB208_203 := n7_; have NB204_208 := n8_; have NB208_204 := n9_; clear n0_ n1_ n2_ n3_ n4_ n5_ n6_ n7_ n8_ n9_; clear hb hbox hg))
    go_loopg [6] k (fun kq v6 w' => ∃ (x6_1 : Int) (x209000_1 : Int) (x209001_1 : Int) (x209002_1 : Int), v6 = .int .i64 x6_1 ∧ Aside0 (curve_Mul.l0 kq a1 x6_1 false t206 t207 x209000_1 x209001_1 x209002_1 = some (r1, r2, r3)) ∧ Aside0 (kq ≤ k) ∧ Aside0 (w'.heap[gb203]? = some (.cells #[.bool false, .int .u64 t206, .int .u64 t207] 24 (0, 0))) ∧ Aside0 (w'.heap[gb204]? = some (.cells #[.bool false, .int .u64 0, .int .u64 0] 24 (0, 0))) ∧ Aside0 (w'.heap[gb208]? = some (.cells #[.int .u64 x209000_1, .int .u64 x209001_1, .int .u64 x209002_1] 63 (0, 0))) ∧ Aside0 (Below w.heap.size w w'))
    case atStart => exact ⟨(63), (0), (0), (0), (by first | rfl | (simp; done) | (simp [*]; done)), H', ⟨Nat.le_refl _⟩, ⟨blk_⟩, ⟨blk_⟩, ⟨blk_⟩, ⟨bel_⟩⟩
    case round =>
      clear H'
      try clear c1
      try clear c2
      try clear p2
      try clear c4
      try clear c7
      try clear c14
      try clear hcz10_0
      try clear hcz10_1
      try clear hcz10_2
      try clear hcz11_0
      try clear hcz11_1
      try clear hcz11_2
      try clear hcz15_0
      try clear hcz15_1
      try clear hcz15_2
      try clear hcz17_0
      try clear hcz17_1
      try clear hcz17_2
      try clear hcz8_0
      try clear hcz8_1
      try clear hcz8_2
      try clear hfz10_0
      try clear hfz10_1
      try clear hfz10_2
      try clear hfz11_0
      try clear hfz11_1
      try clear hfz11_2
      try clear hfz15_0
      try clear hfz15_1
      try clear hfz15_2
      try clear hfz17_0
      try clear hfz17_1
      try clear hfz17_2
      try clear hfz8_0
      try clear hfz8_1
      try clear hfz8_2
      obtain ⟨x6_1, x209000_1, x209001_1, x209002_1, rfl, HA, HK1, BK203, BK204, BK208, HB⟩ := hrel
      cases gk with
      | zero => exact absurd HA.out (by simp [curve_Mul.l0])
      | succ k1 =>
        have H := HA.out
        clear HA
        simp only [curve_Mul.l0] at H
        by_cases c19 : x6_1 ≥ 0
        · rw [if_pos c19] at H
          have c19b0 : decide (0 ≤ x6_1) = true := decide_eq_true c19
          clear c19
          by_cases c20 : x209002_1 > 0
          · rw [if_pos c20] at H
            have c20b0 : decide (0 < x209002_1) = true := decide_eq_true c20
            clear c20
            replace H := Option.bind_eq_some_iff.mp H
            obtain ⟨⟨t209, t210, t211⟩, A210, H⟩ := H
            (try dsimp only at H)
            have A21 := Aside0.mk A210
            clear A210
            by_cases c22 : 0 ≤ x6_1
            · rw [if_pos c22] at H
              have c22b0 := eq_true c22
              have c22b1 : decide (0 ≤ x6_1) = true := decide_eq_true c22
              clear c22
              obtain ⟨ji23, hji23⟩ : ∃ j_ : Int, (shr .u64 a1 x6_1) = j_ := ⟨_, rfl⟩
              replace H : (if (Go.bits .and .u64 (ji23) 1) = 1 then ((curve_more.f k1 t209 t210 t211 false t206 t207).bind fun bt212 => (curve_Mul.l0 k1 a1 (wrap64 (x6_1 - 1)) false t206 t207 bt212.1 bt212.2.1 bt212.2.2)) else (curve_Mul.l0 k1 a1 (wrap64 (x6_1 - 1)) false t206 t207 t209 t210 t211)) = some (r1, r2, r3) := by first | (rw [hji23] at H; exact H) | (simp only [hji23] at H ⊢; exact H)
              (try rw [hji23] at A21)
              have hji23_ : (a1 / 2 ^ min x6_1.toNat 64) = ji23 := hji23
              have hji23z : x6_1 ≤ 64 → (a1 / 2 ^ x6_1.toNat) = ji23 := shr_small hji23
              by_cases c24 : (Go.bits .and .u64 (ji23) 1) = 1
              · rw [if_pos c24] at H
                have c24b0 : ((Go.bits .and .u64 (ji23) 1) == 1) = true := beq_iff_eq.mpr c24
                have c24b1 : ((Go.bits .and .u64 (ji23) 1) != 1) = false := bne_eq_false_iff_eq.mpr c24
                clear c24
                replace H := Option.bind_eq_some_iff.mp H
                obtain ⟨⟨t212, t213, t214⟩, A250, H⟩ := H
                (try dsimp only at H)
                have A25 := Aside0.mk A250
                clear A250
                have H' := Aside0.mk H
                clear H
                have hnb26 := NB208_203.out
                have hnc26 := NB203_208.out
                have hnb27 := NB208_204.out
                have hnc27 := NB204_208.out
                have hcz28_0 : wr.cell? ⟨gb208, 0, none⟩ = some (.int .u64 x209000_1) := (blk_cell BK208.out 0).trans rfl
                have hcz28_1 : wr.cell? ⟨gb208, 1, none⟩ = some (.int .u64 x209001_1) := (blk_cell BK208.out 1).trans rfl
                have hcz28_2 : wr.cell? ⟨gb208, 2, none⟩ = some (.int .u64 x209002_1) := (blk_cell BK208.out 2).trans rfl
                have hfz28_0 := blk_frozen BK208.out 0
                have hfz28_1 := blk_frozen BK208.out 1
                have hfz28_2 := blk_frozen BK208.out 2
                go_wp2_with (first | ((with_reducible refine gate_callee (f := 47) rfl ?_); refine goesL_ (some 23) rfl rfl Try.func47 (by kernel_rfl) rfl #[.agg #[.int .u64 x209000_1, .int .u64 x209001_1, .int .u64 x209002_1]] rfl lna_ ?_; (with_reducible refine (curve_twice.calls x209000_1 x209001_1 x209002_1 t209 t210 t211 _ A21.out).mono ?_); rintro e w29 ⟨rfl, hb⟩; refine ⟨_, rfl, ?_⟩; have n0_ := Aside0.mk (blk_below (g := gb203) (o := .cells #[.bool false, .int .u64 t206, .int .u64 t207] 24 (0, 0)) blk_ hb); have n1_ := Aside0.mk (blk_below (g := gb204) (o := .cells #[.bool false, .int .u64 0, .int .u64 0] 24 (0, 0)) blk_ hb); have n2_ := Aside0.mk (blk_below (g := gb208) (o := .cells #[.int .u64 x209000_1, .int .u64 x209001_1, .int .u64 x209002_1] 63 (0, 0)) blk_ hb); have n3_ := Aside0.mk (below_step bel_ hb); clear BK203; clear BK204; clear BK208; clear HB; have BK203 := n0_; have BK204 := n1_; have BK208 := n2_; have HB := n3_; clear n0_ n1_ n2_ n3_; (try clear hb); (try clear hb2); (try clear hk); (try clear hi); have hcz30_0 : w29.cell? ⟨gb208, 0, none⟩ = some (.int .u64 x209000_1) := (blk_cell BK208.out 0).trans rfl; have hcz30_1 : w29.cell? ⟨gb208, 1, none⟩ = some (.int .u64 x209001_1) := (blk_cell BK208.out 1).trans rfl; have hcz30_2 : w29.cell? ⟨gb208, 2, none⟩ = some (.int .u64 x209002_1) := (blk_cell BK208.out 2).trans rfl; have hfz30_0 := blk_frozen BK208.out 0; have hfz30_1 := blk_frozen BK208.out 1; have hfz30_2 := blk_frozen BK208.out 2) | ((with_reducible refine gate_store (t := 63) (p := 5) rfl ?_); refine store_event (t := 63) (p := 5) (v := ?vo_w31) (w1 := (((w29.setCell ⟨gb208, 0, none⟩ (.int .u64 t209)).setCell ⟨gb208, 1, none⟩ (.int .u64 t210)).setCell ⟨gb208, 2, none⟩ (.int .u64 t211))) ?hg ?ho ?hn ?hr ?_; (case ho => rfl); (case hg => rfl); (case hn => rfl); (case hr => first | (go_simp; done) | (go_simp; rfl)); intro w31 hw; have n0_ : Aside0 (w31.heap[gb203]? = some (.cells #[.bool false, .int .u64 t206, .int .u64 t207] 24 (0, 0))) := ⟨(by rw [hw]; exact (by (with_reducible repeat (first | refine blk_drewN ?_ _ | refine blk_drew ?_ | refine blk_alloc ?_ _)); refine blk_far ?_ NB203_208.out _; (with_reducible repeat (first | refine blk_drewN ?_ _ | refine blk_drew ?_ | refine blk_alloc ?_ _)); refine blk_far ?_ NB203_208.out _; (with_reducible repeat (first | refine blk_drewN ?_ _ | refine blk_drew ?_ | refine blk_alloc ?_ _)); refine blk_far ?_ NB203_208.out _; exact blk_))⟩; have n1_ : Aside0 (w31.heap[gb204]? = some (.cells #[.bool false, .int .u64 0, .int .u64 0] 24 (0, 0))) := ⟨(by rw [hw]; exact (by (with_reducible repeat (first | refine blk_drewN ?_ _ | refine blk_drew ?_ | refine blk_alloc ?_ _)); refine blk_far ?_ NB204_208.out _; (with_reducible repeat (first | refine blk_drewN ?_ _ | refine blk_drew ?_ | refine blk_alloc ?_ _)); refine blk_far ?_ NB204_208.out _; (with_reducible repeat (first | refine blk_drewN ?_ _ | refine blk_drew ?_ | refine blk_alloc ?_ _)); refine blk_far ?_ NB204_208.out _; exact blk_))⟩; have n2_ : Aside0 (w31.heap[gb208]? = some (.cells #[.int .u64 t209, .int .u64 t210, .int .u64 t211] 63 (0, 0))) := ⟨(by rw [hw]; exact (by (with_reducible repeat (first | refine blk_drewN ?_ _ | refine blk_drew ?_ | refine blk_alloc ?_ _)); refine blk_put (cs := #[.int .u64 t209, .int .u64 t210, .int .u64 x209002_1]) ?_ 2 _ rfl; (with_reducible repeat (first | refine blk_drewN ?_ _ | refine blk_drew ?_ | refine blk_alloc ?_ _)); refine blk_put (cs := #[.int .u64 t209, .int .u64 x209001_1, .int .u64 x209002_1]) ?_ 1 _ rfl; (with_reducible repeat (first | refine blk_drewN ?_ _ | refine blk_drew ?_ | refine blk_alloc ?_ _)); refine blk_put (cs := #[.int .u64 x209000_1, .int .u64 x209001_1, .int .u64 x209002_1]) ?_ 0 _ rfl; exact blk_))⟩; have n3_ : Aside0 (Below w.heap.size w w31) := ⟨(by rw [hw]; exact bel_)⟩; clear hw; clear BK203; clear BK204; clear BK208; clear HB; have BK203 := n0_; have BK204 := n1_; have BK208 := n2_; have HB := n3_; clear n0_ n1_ n2_ n3_; have hcz32_0 : w31.cell? ⟨gb208, 0, none⟩ = some (.int .u64 t209) := (blk_cell BK208.out 0).trans rfl; have hcz32_1 : w31.cell? ⟨gb208, 1, none⟩ = some (.int .u64 t210) := (blk_cell BK208.out 1).trans rfl; have hcz32_2 : w31.cell? ⟨gb208, 2, none⟩ = some (.int .u64 t211) := (blk_cell BK208.out 2).trans rfl; have hfz32_0 := blk_frozen BK208.out 0; have hfz32_1 := blk_frozen BK208.out 1; have hfz32_2 := blk_frozen BK208.out 2; have hnb33 := NB203_204.out; have hnc33 := NB204_203.out; have hcz34_0 : w31.cell? ⟨gb203, 0, none⟩ = some (.bool false) := (blk_cell BK203.out 0).trans rfl; have hcz34_1 : w31.cell? ⟨gb203, 1, none⟩ = some (.int .u64 t206) := (blk_cell BK203.out 1).trans rfl; have hcz34_2 : w31.cell? ⟨gb203, 2, none⟩ = some (.int .u64 t207) := (blk_cell BK203.out 2).trans rfl; have hfz34_0 := blk_frozen BK203.out 0; have hfz34_1 := blk_frozen BK203.out 1; have hfz34_2 := blk_frozen BK203.out 2) | ((with_reducible refine gate_callee (f := 48) rfl ?_); refine goesL_ (some 31) rfl rfl Try.func48 (by kernel_rfl) rfl #[.agg #[.int .u64 t209, .int .u64 t210, .int .u64 t211], .agg #[.bool false, .int .u64 t206, .int .u64 t207]] rfl lna_ ?_; (with_reducible refine (curve_more.calls k1 t209 t210 t211 false t206 t207 t212 t213 t214 _ A25.out).mono ?_); rintro e w35 ⟨rfl, hb⟩; refine ⟨_, rfl, ?_⟩; have n0_ := Aside0.mk (blk_below (g := gb203) (o := .cells #[.bool false, .int .u64 t206, .int .u64 t207] 24 (0, 0)) blk_ hb); have n1_ := Aside0.mk (blk_below (g := gb204) (o := .cells #[.bool false, .int .u64 0, .int .u64 0] 24 (0, 0)) blk_ hb); have n2_ := Aside0.mk (blk_below (g := gb208) (o := .cells #[.int .u64 t209, .int .u64 t210, .int .u64 t211] 63 (0, 0)) blk_ hb); have n3_ := Aside0.mk (below_step bel_ hb); clear BK203; clear BK204; clear BK208; clear HB; have BK203 := n0_; have BK204 := n1_; have BK208 := n2_; have HB := n3_; clear n0_ n1_ n2_ n3_; (try clear hb); (try clear hb2); (try clear hk); (try clear hi); have hcz36_0 : w35.cell? ⟨gb208, 0, none⟩ = some (.int .u64 t209) := (blk_cell BK208.out 0).trans rfl; have hcz36_1 : w35.cell? ⟨gb208, 1, none⟩ = some (.int .u64 t210) := (blk_cell BK208.out 1).trans rfl; have hcz36_2 : w35.cell? ⟨gb208, 2, none⟩ = some (.int .u64 t211) := (blk_cell BK208.out 2).trans rfl; have hfz36_0 := blk_frozen BK208.out 0; have hfz36_1 := blk_frozen BK208.out 1; have hfz36_2 := blk_frozen BK208.out 2))
                go_roundg k1
                case measure => have := HK1.out; omega
                case rel => exact ⟨(wrap64 (x6_1 - 1)), (t212), (t213), (t214), (by first | rfl | (simp; done) | (simp [*]; done)), H', ⟨by have := HK1.out; omega⟩, ⟨by (with_reducible repeat (first | refine blk_drewN ?_ _ | refine blk_drew ?_ | refine blk_alloc ?_ _)); refine blk_far ?_ NB203_208.out _; (with_reducible repeat (first | refine blk_drewN ?_ _ | refine blk_drew ?_ | refine blk_alloc ?_ _)); refine blk_far ?_ NB203_208.out _; (with_reducible repeat (first | refine blk_drewN ?_ _ | refine blk_drew ?_ | refine blk_alloc ?_ _)); refine blk_far ?_ NB203_208.out _; exact blk_⟩, ⟨by (with_reducible repeat (first | refine blk_drewN ?_ _ | refine blk_drew ?_ | refine blk_alloc ?_ _)); refine blk_far ?_ NB204_208.out _; (with_reducible repeat (first | refine blk_drewN ?_ _ | refine blk_drew ?_ | refine blk_alloc ?_ _)); refine blk_far ?_ NB204_208.out _; (with_reducible repeat (first | refine blk_drewN ?_ _ | refine blk_drew ?_ | refine blk_alloc ?_ _)); refine blk_far ?_ NB204_208.out _; exact blk_⟩, ⟨by (with_reducible repeat (first | refine blk_drewN ?_ _ | refine blk_drew ?_ | refine blk_alloc ?_ _)); refine blk_put (cs := #[.int .u64 t212, .int .u64 t213, .int .u64 t211]) ?_ 2 _ rfl; (with_reducible repeat (first | refine blk_drewN ?_ _ | refine blk_drew ?_ | refine blk_alloc ?_ _)); refine blk_put (cs := #[.int .u64 t212, .int .u64 t210, .int .u64 t211]) ?_ 1 _ rfl; (with_reducible repeat (first | refine blk_drewN ?_ _ | refine blk_drew ?_ | refine blk_alloc ?_ _)); refine blk_put (cs := #[.int .u64 t209, .int .u64 t210, .int .u64 t211]) ?_ 0 _ rfl; exact blk_⟩, ⟨bel_⟩⟩
              · rw [if_neg c24] at H
                have c24b0 : ((Go.bits .and .u64 (ji23) 1) == 1) = false := beq_eq_false_iff_ne.mpr c24
                have c24b1 : ((Go.bits .and .u64 (ji23) 1) != 1) = true := bne_iff_ne.mpr c24
                have H' := Aside0.mk H
                clear H
                have hnb37 := NB208_203.out
                have hnc37 := NB203_208.out
                have hnb38 := NB208_204.out
                have hnc38 := NB204_208.out
                have hcz39_0 : wr.cell? ⟨gb208, 0, none⟩ = some (.int .u64 x209000_1) := (blk_cell BK208.out 0).trans rfl
                have hcz39_1 : wr.cell? ⟨gb208, 1, none⟩ = some (.int .u64 x209001_1) := (blk_cell BK208.out 1).trans rfl
                have hcz39_2 : wr.cell? ⟨gb208, 2, none⟩ = some (.int .u64 x209002_1) := (blk_cell BK208.out 2).trans rfl
                have hfz39_0 := blk_frozen BK208.out 0
                have hfz39_1 := blk_frozen BK208.out 1
                have hfz39_2 := blk_frozen BK208.out 2
                go_wp2_with (first | ((with_reducible refine gate_callee (f := 47) rfl ?_); refine goesL_ (some 23) rfl rfl Try.func47 (by kernel_rfl) rfl #[.agg #[.int .u64 x209000_1, .int .u64 x209001_1, .int .u64 x209002_1]] rfl lna_ ?_; (with_reducible refine (curve_twice.calls x209000_1 x209001_1 x209002_1 t209 t210 t211 _ A21.out).mono ?_); rintro e w40 ⟨rfl, hb⟩; refine ⟨_, rfl, ?_⟩; have n0_ := Aside0.mk (blk_below (g := gb203) (o := .cells #[.bool false, .int .u64 t206, .int .u64 t207] 24 (0, 0)) blk_ hb); have n1_ := Aside0.mk (blk_below (g := gb204) (o := .cells #[.bool false, .int .u64 0, .int .u64 0] 24 (0, 0)) blk_ hb); have n2_ := Aside0.mk (blk_below (g := gb208) (o := .cells #[.int .u64 x209000_1, .int .u64 x209001_1, .int .u64 x209002_1] 63 (0, 0)) blk_ hb); have n3_ := Aside0.mk (below_step bel_ hb); clear BK203; clear BK204; clear BK208; clear HB; have BK203 := n0_; have BK204 := n1_; have BK208 := n2_; have HB := n3_; clear n0_ n1_ n2_ n3_; (try clear hb); (try clear hb2); (try clear hk); (try clear hi); have hcz41_0 : w40.cell? ⟨gb208, 0, none⟩ = some (.int .u64 x209000_1) := (blk_cell BK208.out 0).trans rfl; have hcz41_1 : w40.cell? ⟨gb208, 1, none⟩ = some (.int .u64 x209001_1) := (blk_cell BK208.out 1).trans rfl; have hcz41_2 : w40.cell? ⟨gb208, 2, none⟩ = some (.int .u64 x209002_1) := (blk_cell BK208.out 2).trans rfl; have hfz41_0 := blk_frozen BK208.out 0; have hfz41_1 := blk_frozen BK208.out 1; have hfz41_2 := blk_frozen BK208.out 2))
                go_roundg k1
                case measure => have := HK1.out; omega
                case rel => exact ⟨(wrap64 (x6_1 - 1)), (t209), (t210), (t211), (by first | rfl | (simp; done) | (simp [*]; done)), H', ⟨by have := HK1.out; omega⟩, ⟨by (with_reducible repeat (first | refine blk_drewN ?_ _ | refine blk_drew ?_ | refine blk_alloc ?_ _)); refine blk_far ?_ NB203_208.out _; (with_reducible repeat (first | refine blk_drewN ?_ _ | refine blk_drew ?_ | refine blk_alloc ?_ _)); refine blk_far ?_ NB203_208.out _; (with_reducible repeat (first | refine blk_drewN ?_ _ | refine blk_drew ?_ | refine blk_alloc ?_ _)); refine blk_far ?_ NB203_208.out _; exact blk_⟩, ⟨by (with_reducible repeat (first | refine blk_drewN ?_ _ | refine blk_drew ?_ | refine blk_alloc ?_ _)); refine blk_far ?_ NB204_208.out _; (with_reducible repeat (first | refine blk_drewN ?_ _ | refine blk_drew ?_ | refine blk_alloc ?_ _)); refine blk_far ?_ NB204_208.out _; (with_reducible repeat (first | refine blk_drewN ?_ _ | refine blk_drew ?_ | refine blk_alloc ?_ _)); refine blk_far ?_ NB204_208.out _; exact blk_⟩, ⟨by (with_reducible repeat (first | refine blk_drewN ?_ _ | refine blk_drew ?_ | refine blk_alloc ?_ _)); refine blk_put (cs := #[.int .u64 t209, .int .u64 t210, .int .u64 x209002_1]) ?_ 2 _ rfl; (with_reducible repeat (first | refine blk_drewN ?_ _ | refine blk_drew ?_ | refine blk_alloc ?_ _)); refine blk_put (cs := #[.int .u64 t209, .int .u64 x209001_1, .int .u64 x209002_1]) ?_ 1 _ rfl; (with_reducible repeat (first | refine blk_drewN ?_ _ | refine blk_drew ?_ | refine blk_alloc ?_ _)); refine blk_put (cs := #[.int .u64 x209000_1, .int .u64 x209001_1, .int .u64 x209002_1]) ?_ 0 _ rfl; exact blk_⟩, ⟨bel_⟩⟩
            · rw [if_neg c22] at H
              exact absurd H (by simp)
          · rw [if_neg c20] at H
            have c20b0 : decide (0 < x209002_1) = false := decide_eq_false c20
            clear c20
            by_cases c42 : 0 ≤ x6_1
            · rw [if_pos c42] at H
              have c42b0 := eq_true c42
              have c42b1 : decide (0 ≤ x6_1) = true := decide_eq_true c42
              clear c42
              obtain ⟨ji43, hji43⟩ : ∃ j_ : Int, (shr .u64 a1 x6_1) = j_ := ⟨_, rfl⟩
              replace H : (if (Go.bits .and .u64 (ji43) 1) = 1 then ((curve_more.f k1 x209000_1 x209001_1 x209002_1 false t206 t207).bind fun bt215 => (curve_Mul.l0 k1 a1 (wrap64 (x6_1 - 1)) false t206 t207 bt215.1 bt215.2.1 bt215.2.2)) else (curve_Mul.l0 k1 a1 (wrap64 (x6_1 - 1)) false t206 t207 x209000_1 x209001_1 x209002_1)) = some (r1, r2, r3) := by first | (rw [hji43] at H; exact H) | (simp only [hji43] at H ⊢; exact H)
              have hji43_ : (a1 / 2 ^ min x6_1.toNat 64) = ji43 := hji43
              have hji43z : x6_1 ≤ 64 → (a1 / 2 ^ x6_1.toNat) = ji43 := shr_small hji43
              by_cases c44 : (Go.bits .and .u64 (ji43) 1) = 1
              · rw [if_pos c44] at H
                have c44b0 : ((Go.bits .and .u64 (ji43) 1) == 1) = true := beq_iff_eq.mpr c44
                have c44b1 : ((Go.bits .and .u64 (ji43) 1) != 1) = false := bne_eq_false_iff_eq.mpr c44
                clear c44
                replace H := Option.bind_eq_some_iff.mp H
                obtain ⟨⟨t215, t216, t217⟩, A450, H⟩ := H
                (try dsimp only at H)
                have A45 := Aside0.mk A450
                clear A450
                have H' := Aside0.mk H
                clear H
                have hnb46 := NB208_203.out
                have hnc46 := NB203_208.out
                have hnb47 := NB208_204.out
                have hnc47 := NB204_208.out
                have hcz48_0 : wr.cell? ⟨gb208, 0, none⟩ = some (.int .u64 x209000_1) := (blk_cell BK208.out 0).trans rfl
                have hcz48_1 : wr.cell? ⟨gb208, 1, none⟩ = some (.int .u64 x209001_1) := (blk_cell BK208.out 1).trans rfl
                have hcz48_2 : wr.cell? ⟨gb208, 2, none⟩ = some (.int .u64 x209002_1) := (blk_cell BK208.out 2).trans rfl
                have hfz48_0 := blk_frozen BK208.out 0
                have hfz48_1 := blk_frozen BK208.out 1
                have hfz48_2 := blk_frozen BK208.out 2
                have hnb49 := NB203_204.out
                have hnc49 := NB204_203.out
                have hcz50_0 : wr.cell? ⟨gb203, 0, none⟩ = some (.bool false) := (blk_cell BK203.out 0).trans rfl
                have hcz50_1 : wr.cell? ⟨gb203, 1, none⟩ = some (.int .u64 t206) := (blk_cell BK203.out 1).trans rfl
                have hcz50_2 : wr.cell? ⟨gb203, 2, none⟩ = some (.int .u64 t207) := (blk_cell BK203.out 2).trans rfl
                have hfz50_0 := blk_frozen BK203.out 0
                have hfz50_1 := blk_frozen BK203.out 1
                have hfz50_2 := blk_frozen BK203.out 2
                go_wp2_with (first | ((with_reducible refine gate_callee (f := 48) rfl ?_); refine goesL_ (some 31) rfl rfl Try.func48 (by kernel_rfl) rfl #[.agg #[.int .u64 x209000_1, .int .u64 x209001_1, .int .u64 x209002_1], .agg #[.bool false, .int .u64 t206, .int .u64 t207]] rfl lna_ ?_; (with_reducible refine (curve_more.calls k1 x209000_1 x209001_1 x209002_1 false t206 t207 t215 t216 t217 _ A45.out).mono ?_); rintro e w51 ⟨rfl, hb⟩; refine ⟨_, rfl, ?_⟩; have n0_ := Aside0.mk (blk_below (g := gb203) (o := .cells #[.bool false, .int .u64 t206, .int .u64 t207] 24 (0, 0)) blk_ hb); have n1_ := Aside0.mk (blk_below (g := gb204) (o := .cells #[.bool false, .int .u64 0, .int .u64 0] 24 (0, 0)) blk_ hb); have n2_ := Aside0.mk (blk_below (g := gb208) (o := .cells #[.int .u64 x209000_1, .int .u64 x209001_1, .int .u64 x209002_1] 63 (0, 0)) blk_ hb); have n3_ := Aside0.mk (below_step bel_ hb); clear BK203; clear BK204; clear BK208; clear HB; have BK203 := n0_; have BK204 := n1_; have BK208 := n2_; have HB := n3_; clear n0_ n1_ n2_ n3_; (try clear hb); (try clear hb2); (try clear hk); (try clear hi); have hcz52_0 : w51.cell? ⟨gb208, 0, none⟩ = some (.int .u64 x209000_1) := (blk_cell BK208.out 0).trans rfl; have hcz52_1 : w51.cell? ⟨gb208, 1, none⟩ = some (.int .u64 x209001_1) := (blk_cell BK208.out 1).trans rfl; have hcz52_2 : w51.cell? ⟨gb208, 2, none⟩ = some (.int .u64 x209002_1) := (blk_cell BK208.out 2).trans rfl; have hfz52_0 := blk_frozen BK208.out 0; have hfz52_1 := blk_frozen BK208.out 1; have hfz52_2 := blk_frozen BK208.out 2))
                go_roundg k1
                case measure => have := HK1.out; omega
                case rel => exact ⟨(wrap64 (x6_1 - 1)), (t215), (t216), (t217), (by first | rfl | (simp; done) | (simp [*]; done)), H', ⟨by have := HK1.out; omega⟩, ⟨by (with_reducible repeat (first | refine blk_drewN ?_ _ | refine blk_drew ?_ | refine blk_alloc ?_ _)); refine blk_far ?_ NB203_208.out _; (with_reducible repeat (first | refine blk_drewN ?_ _ | refine blk_drew ?_ | refine blk_alloc ?_ _)); refine blk_far ?_ NB203_208.out _; (with_reducible repeat (first | refine blk_drewN ?_ _ | refine blk_drew ?_ | refine blk_alloc ?_ _)); refine blk_far ?_ NB203_208.out _; exact blk_⟩, ⟨by (with_reducible repeat (first | refine blk_drewN ?_ _ | refine blk_drew ?_ | refine blk_alloc ?_ _)); refine blk_far ?_ NB204_208.out _; (with_reducible repeat (first | refine blk_drewN ?_ _ | refine blk_drew ?_ | refine blk_alloc ?_ _)); refine blk_far ?_ NB204_208.out _; (with_reducible repeat (first | refine blk_drewN ?_ _ | refine blk_drew ?_ | refine blk_alloc ?_ _)); refine blk_far ?_ NB204_208.out _; exact blk_⟩, ⟨by (with_reducible repeat (first | refine blk_drewN ?_ _ | refine blk_drew ?_ | refine blk_alloc ?_ _)); refine blk_put (cs := #[.int .u64 t215, .int .u64 t216, .int .u64 x209002_1]) ?_ 2 _ rfl; (with_reducible repeat (first | refine blk_drewN ?_ _ | refine blk_drew ?_ | refine blk_alloc ?_ _)); refine blk_put (cs := #[.int .u64 t215, .int .u64 x209001_1, .int .u64 x209002_1]) ?_ 1 _ rfl; (with_reducible repeat (first | refine blk_drewN ?_ _ | refine blk_drew ?_ | refine blk_alloc ?_ _)); refine blk_put (cs := #[.int .u64 x209000_1, .int .u64 x209001_1, .int .u64 x209002_1]) ?_ 0 _ rfl; exact blk_⟩, ⟨bel_⟩⟩
              · rw [if_neg c44] at H
                have c44b0 : ((Go.bits .and .u64 (ji43) 1) == 1) = false := beq_eq_false_iff_ne.mpr c44
                have c44b1 : ((Go.bits .and .u64 (ji43) 1) != 1) = true := bne_iff_ne.mpr c44
                have H' := Aside0.mk H
                clear H
                have hnb53 := NB208_203.out
                have hnc53 := NB203_208.out
                have hnb54 := NB208_204.out
                have hnc54 := NB204_208.out
                have hcz55_0 : wr.cell? ⟨gb208, 0, none⟩ = some (.int .u64 x209000_1) := (blk_cell BK208.out 0).trans rfl
                have hcz55_1 : wr.cell? ⟨gb208, 1, none⟩ = some (.int .u64 x209001_1) := (blk_cell BK208.out 1).trans rfl
                have hcz55_2 : wr.cell? ⟨gb208, 2, none⟩ = some (.int .u64 x209002_1) := (blk_cell BK208.out 2).trans rfl
                have hfz55_0 := blk_frozen BK208.out 0
                have hfz55_1 := blk_frozen BK208.out 1
                have hfz55_2 := blk_frozen BK208.out 2
                go_wp2
                go_roundg k1
                case measure => have := HK1.out; omega
                case rel => exact ⟨(wrap64 (x6_1 - 1)), (x209000_1), (x209001_1), (x209002_1), (by first | rfl | (simp; done) | (simp [*]; done)), H', ⟨by have := HK1.out; omega⟩, ⟨blk_⟩, ⟨blk_⟩, ⟨blk_⟩, ⟨bel_⟩⟩
            · rw [if_neg c42] at H
              exact absurd H (by simp)
        · rw [if_neg c19] at H
          have c19b0 : decide (0 ≤ x6_1) = false := decide_eq_false c19
          clear c19
          replace H := Option.bind_eq_some_iff.mp H
          obtain ⟨⟨t218, t219⟩, A560, H⟩ := H
          (try dsimp only at H)
          have A56 := Aside0.mk A560
          clear A560
          rcases t219 with _ | q220
          · have H1 : ((curve_mul.f t218 t218).bind fun t221 => ((curve_mul.f x209000_1 t221).bind fun t222 => ((curve_mul.f t221 t218).bind fun t223 => ((curve_mul.f x209001_1 t223).bind fun t224 => (some (false, t222, t224)))))) = some (r1, r2, r3) := by rw [if_pos (show (none : Option Int).isNone = true by rfl)] at H; exact H
            clear H
            have H := H1
            clear H1
            try simp only [errW_none, errW_some]
            replace H := Option.bind_eq_some_iff.mp H
            obtain ⟨t221, A570, H⟩ := H
            (try dsimp only at H)
            have A57 := Aside0.mk A570
            clear A570
            replace H := Option.bind_eq_some_iff.mp H
            obtain ⟨t222, A580, H⟩ := H
            (try dsimp only at H)
            have A58 := Aside0.mk A580
            clear A580
            replace H := Option.bind_eq_some_iff.mp H
            obtain ⟨t223, A590, H⟩ := H
            (try dsimp only at H)
            have A59 := Aside0.mk A590
            clear A590
            replace H := Option.bind_eq_some_iff.mp H
            obtain ⟨t224, A600, H⟩ := H
            (try dsimp only at H)
            have A60 := Aside0.mk A600
            clear A600
            simp only [Option.some.injEq, Prod.mk.injEq] at H
            obtain ⟨rfl, rfl, rfl⟩ := H
            have hnb61 := NB208_203.out
            have hnc61 := NB203_208.out
            have hnb62 := NB208_204.out
            have hnc62 := NB204_208.out
            have hcz63_0 : wr.cell? ⟨gb208, 0, none⟩ = some (.int .u64 x209000_1) := (blk_cell BK208.out 0).trans rfl
            have hcz63_1 : wr.cell? ⟨gb208, 1, none⟩ = some (.int .u64 x209001_1) := (blk_cell BK208.out 1).trans rfl
            have hcz63_2 : wr.cell? ⟨gb208, 2, none⟩ = some (.int .u64 x209002_1) := (blk_cell BK208.out 2).trans rfl
            have hfz63_0 := blk_frozen BK208.out 0
            have hfz63_1 := blk_frozen BK208.out 1
            have hfz63_2 := blk_frozen BK208.out 2
            try go_wp2_with (first | ((with_reducible refine gate_callee (f := 49) rfl ?_); refine goesL_ (some 35) rfl rfl Try.func49 (by kernel_rfl) rfl #[.int .u64 1152921505151057923, .int .u64 x209002_1] rfl lna_ ?_; (with_reducible refine (modular_Inv.calls 1152921505151057923 x209002_1 t218 none _ A56.out).mono ?_); rintro e w' ⟨rfl, ⟨nd, rfl⟩⟩; refine ⟨_, rfl, ?_⟩; (try simp only [errW_none, errW_some]); (repeat rw [World.drewN_drewN]); (try (rw [drewN_self wr]; generalize hq_ : World.drewN wr _ = wr; have n0_ : Aside0 (wr.heap[gb203]? = some (.cells #[.bool false, .int .u64 t206, .int .u64 t207] 24 (0, 0))) := ⟨by rw [← hq_]; exact blk_⟩; have n1_ : Aside0 (wr.heap[gb204]? = some (.cells #[.bool false, .int .u64 0, .int .u64 0] 24 (0, 0))) := ⟨by rw [← hq_]; exact blk_⟩; have n2_ : Aside0 (wr.heap[gb208]? = some (.cells #[.int .u64 x209000_1, .int .u64 x209001_1, .int .u64 x209002_1] 63 (0, 0))) := ⟨by rw [← hq_]; exact blk_⟩; have n3_ : Aside0 (Below w.heap.size w wr) := ⟨by rw [← hq_]; exact bel_⟩; clear BK203 BK204 BK208 HB hq_; have BK203 := n0_; have BK204 := n1_; have BK208 := n2_; have HB := n3_; clear n0_ n1_ n2_ n3_))) | ((with_reducible refine gate_callee (f := 51) rfl ?_); refine goesL_ (some 43) rfl rfl Try.func51 (by kernel_rfl) rfl #[.int .u64 t218, .int .u64 t218] rfl lna_ ?_; (with_reducible refine (curve_mul.calls t218 t218 t221 _ A57.out).mono ?_); rintro e w' ⟨rfl, ⟨nd, rfl⟩⟩; refine ⟨_, rfl, ?_⟩; (repeat rw [World.drewN_drewN]); (try (rw [drewN_self wr]; generalize hq_ : World.drewN wr _ = wr; have n0_ : Aside0 (wr.heap[gb203]? = some (.cells #[.bool false, .int .u64 t206, .int .u64 t207] 24 (0, 0))) := ⟨by rw [← hq_]; exact blk_⟩; have n1_ : Aside0 (wr.heap[gb204]? = some (.cells #[.bool false, .int .u64 0, .int .u64 0] 24 (0, 0))) := ⟨by rw [← hq_]; exact blk_⟩; have n2_ : Aside0 (wr.heap[gb208]? = some (.cells #[.int .u64 x209000_1, .int .u64 x209001_1, .int .u64 x209002_1] 63 (0, 0))) := ⟨by rw [← hq_]; exact blk_⟩; have n3_ : Aside0 (Below w.heap.size w wr) := ⟨by rw [← hq_]; exact bel_⟩; clear BK203 BK204 BK208 HB hq_; have BK203 := n0_; have BK204 := n1_; have BK208 := n2_; have HB := n3_; clear n0_ n1_ n2_ n3_))))
            (repeat rw [World.drewN_drewN])
            (try (rw [drewN_self wr]; generalize hq_ : World.drewN wr _ = wr; have n0_ : Aside0 (wr.heap[gb203]? = some (.cells #[.bool false, .int .u64 t206, .int .u64 t207] 24 (0, 0))) := ⟨by rw [← hq_]; exact blk_⟩; have n1_ : Aside0 (wr.heap[gb204]? = some (.cells #[.bool false, .int .u64 0, .int .u64 0] 24 (0, 0))) := ⟨by rw [← hq_]; exact blk_⟩; have n2_ : Aside0 (wr.heap[gb208]? = some (.cells #[.int .u64 x209000_1, .int .u64 x209001_1, .int .u64 x209002_1] 63 (0, 0))) := ⟨by rw [← hq_]; exact blk_⟩; have n3_ : Aside0 (Below w.heap.size w wr) := ⟨by rw [← hq_]; exact bel_⟩; clear BK203 BK204 BK208 HB hq_; have BK203 := n0_; have BK204 := n1_; have BK208 := n2_; have HB := n3_; clear n0_ n1_ n2_ n3_))
            have n0_ := Aside0.mk (blk_drew BK203.out)
            have n1_ := Aside0.mk (blk_drew BK204.out)
            have n2_ := Aside0.mk (blk_drew BK208.out)
            have n3_ := Aside0.mk (below_drew1 HB.out)
            clear BK203
            clear BK204
            clear BK208
            clear HB
            have BK203 := n0_
            have BK204 := n1_
            have BK208 := n2_
            have HB := n3_
            clear n0_ n1_ n2_ n3_
            refine start_ (n := 12) (S := fun w' => w'.cell? ⟨gb208, 0, none⟩ = some (.int .u64 x209000_1) ∧ w'.cell? ⟨gb208, 1, none⟩ = some (.int .u64 x209001_1) ∧ w'.cell? ⟨gb208, 2, none⟩ = some (.int .u64 x209002_1)) (ds := []) #[false, false, false, false, false, false, false, false, false, false, false, false] (by kernel_rfl) rfl rfl ⟨(blk_cell BK208.out 0).trans rfl, (blk_cell BK208.out 1).trans rfl, (blk_cell BK208.out 2).trans rfl⟩ (fun hHeld => ?_); refine with_tabW curve_Mul.tab16 curve_Mul.bits16 (fun HT_ HW_ => ?_)
            generalize wr.drew = w64 at BK203 BK204 BK208 HB hHeld ⊢
            refine pure_ (i := 0) (N := some 44) (v := ?_) (a' := ?_) #[true, false, false, false, false, false, false, false, false, false, false, false] rfl rfl (any_of HT_.out (by kernel_rfl)) (fun _ _ _ h => h) (Or.inl ⟨by rfl, ?_⟩) ?_ ?_
            rotate_left
            · intro w'
              go_simp
              with_reducible rfl
            rotate_left
            · simp only [Act.put, List.setIfInBounds_toArray, List.set_cons_zero, List.set_cons_succ, i64_w, i32_w]
              rfl
            refine pure_ (i := 2) (N := some 46) (v := ?_) (a' := ?_) #[true, false, true, false, false, false, false, false, false, false, false, false] rfl rfl (any_of HT_.out (by kernel_rfl)) (fun _ _ _ h => h) (Or.inl ⟨by rfl, ?_⟩) ?_ ?_
            rotate_left
            · intro w'
              go_simp
              with_reducible rfl
            rotate_left
            · simp only [Act.put, List.setIfInBounds_toArray, List.set_cons_zero, List.set_cons_succ, i64_w, i32_w]
              rfl
            refine pure_ (i := 4) (N := some 48) (v := ?_) (a' := ?_) #[true, false, true, false, true, false, false, false, false, false, false, false] rfl rfl (any_of HT_.out (by kernel_rfl)) (fun _ _ _ h => h) (Or.inl ⟨by rfl, ?_⟩) ?_ ?_
            rotate_left
            · intro w'
              go_simp
              with_reducible rfl
            rotate_left
            · simp only [Act.put, List.setIfInBounds_toArray, List.set_cons_zero, List.set_cons_succ, i64_w, i32_w]
              rfl
            refine pure_ (i := 6) (N := some 50) (v := ?_) (a' := ?_) #[true, false, true, false, true, false, true, false, false, false, false, false] rfl rfl (any_of HT_.out (by kernel_rfl)) (fun _ _ _ h => h) (Or.inl ⟨by rfl, ?_⟩) ?_ ?_
            rotate_left
            · intro w'
              go_simp
              with_reducible rfl
            rotate_left
            · simp only [Act.put, List.setIfInBounds_toArray, List.set_cons_zero, List.set_cons_succ, i64_w, i32_w]
              rfl
            refine pure_ (i := 7) (N := some 51) (v := ?_) (a' := ?_) #[true, false, true, false, true, false, true, true, false, false, false, false] rfl rfl (any_of HT_.out (by kernel_rfl)) (fun _ _ _ h => h) (Or.inl ⟨by rfl, ?_⟩) ?_ ?_
            rotate_left
            · intro w'
              go_simp
              with_reducible rfl
            rotate_left
            · simp only [Act.put, List.setIfInBounds_toArray, List.set_cons_zero, List.set_cons_succ, i64_w, i32_w]
              rfl
            refine take_ (i := 1) (N := some 45) (v := ?_) (a' := ?_) #[true, true, true, false, true, false, true, true, false, false, false, false] rfl rfl (take_ofW HT_.out HW_.out (by kernel_rfl)) (fun _ _ _ h => h) (Or.inl ⟨by rfl, ?_⟩) hHeld ?_ ?_
            rotate_left
            · rintro w' ⟨s0, s1, s2⟩
              go_simp
              with_reducible rfl
            rotate_left
            · simp only [Act.put, List.setIfInBounds_toArray, List.set_cons_zero, List.set_cons_succ, i64_w, i32_w]
              rfl
            refine take_ (i := 5) (N := some 49) (v := ?_) (a' := ?_) #[true, true, true, false, true, true, true, true, false, false, false, false] rfl rfl (take_ofW HT_.out HW_.out (by kernel_rfl)) (fun _ _ _ h => h) (Or.inl ⟨by rfl, ?_⟩) hHeld ?_ ?_
            rotate_left
            · rintro w' ⟨s0, s1, s2⟩
              go_simp
              with_reducible rfl
            rotate_left
            · simp only [Act.put, List.setIfInBounds_toArray, List.set_cons_zero, List.set_cons_succ, i64_w, i32_w]
              rfl
            refine one_ (i := 3) (N := some 47) #[true, true, true, true, true, true, true, true, false, false, false, false] rfl rfl (one_of HT_.out (by kernel_rfl)) (by decide) (fun K hK => ?_)
            refine goes_ Try.func51 (by kernel_rfl) rfl #[.int .u64 x209000_1, .int .u64 t221] (by rfl) rfl rfl lna_ ?_
            with_reducible refine (curve_mul.calls x209000_1 t221 t222 _ A58.out).mono ?_
            rintro e w' ⟨rfl, ⟨nd, rfl⟩⟩
            refine ⟨_, rfl, ?_⟩
            refine hK.out _ _ ⟨(blk_cell BK208.out 0).trans rfl, (blk_cell BK208.out 1).trans rfl, (blk_cell BK208.out 2).trans rfl⟩ (fun hHeld => ?_)
            clear hK K
            refine norm_ (a' := ?_) ?_ ?_
            rotate_left
            · show Act.put _ (some 47) _ = _
              simp only [Act.put, List.setIfInBounds_toArray, List.set_cons_zero, List.set_cons_succ, i64_w, i32_w]
              rfl
            refine one_ (i := 8) (N := some 52) #[true, true, true, true, true, true, true, true, true, false, false, false] rfl rfl (one_of HT_.out (by kernel_rfl)) (by decide) (fun K hK => ?_)
            refine goes_ Try.func51 (by kernel_rfl) rfl #[.int .u64 t221, .int .u64 t218] (by rfl) rfl rfl lna_ ?_
            with_reducible refine (curve_mul.calls t221 t218 t223 _ A59.out).mono ?_
            rintro e w' ⟨rfl, ⟨nd, rfl⟩⟩
            refine ⟨_, rfl, ?_⟩
            refine hK.out _ _ ⟨(blk_cell BK208.out 0).trans rfl, (blk_cell BK208.out 1).trans rfl, (blk_cell BK208.out 2).trans rfl⟩ (fun hHeld => ?_)
            clear hK K
            refine norm_ (a' := ?_) ?_ ?_
            rotate_left
            · show Act.put _ (some 52) _ = _
              simp only [Act.put, List.setIfInBounds_toArray, List.set_cons_zero, List.set_cons_succ, i64_w, i32_w]
              rfl
            refine one_ (i := 9) (N := some 53) #[true, true, true, true, true, true, true, true, true, true, false, false] rfl rfl (one_of HT_.out (by kernel_rfl)) (by decide) (fun K hK => ?_)
            refine goes_ Try.func51 (by kernel_rfl) rfl #[.int .u64 x209001_1, .int .u64 t223] (by rfl) rfl rfl lna_ ?_
            with_reducible refine (curve_mul.calls x209001_1 t223 t224 _ A60.out).mono ?_
            rintro e w' ⟨rfl, ⟨nd, rfl⟩⟩
            refine ⟨_, rfl, ?_⟩
            refine hK.out _ _ ⟨(blk_cell BK208.out 0).trans rfl, (blk_cell BK208.out 1).trans rfl, (blk_cell BK208.out 2).trans rfl⟩ (fun hHeld => ?_)
            clear hK K
            refine norm_ (a' := ?_) ?_ ?_
            rotate_left
            · show Act.put _ (some 53) _ = _
              simp only [Act.put, List.setIfInBounds_toArray, List.set_cons_zero, List.set_cons_succ, i64_w, i32_w]
              rfl
            refine pure_ (i := 10) (N := some 54) (v := ?_) (a' := ?_) #[true, true, true, true, true, true, true, true, true, true, true, false] rfl rfl (any_of HT_.out (by kernel_rfl)) (fun _ _ _ h => h) (Or.inl ⟨by rfl, ?_⟩) ?_ ?_
            rotate_left
            · intro w'
              go_simp
              with_reducible rfl
            rotate_left
            · simp only [Act.put, List.setIfInBounds_toArray, List.set_cons_zero, List.set_cons_succ, i64_w, i32_w]
              rfl
            refine one_ (i := 11) (N := none) #[true, true, true, true, true, true, true, true, true, true, true, true] rfl rfl (one_of HT_.out (by kernel_rfl)) (by decide) (fun K hK => ?_)
            have hs65 : w64.cell? ⟨gb204, 0, none⟩ = some (.bool false) := (blk_cell BK204.out 0).trans rfl
            have hfs65 := blk_frozen BK204.out 0
            have hns65_0 := NB203_204.out
            have hns65_2 := NB208_204.out
            have hms65_0 := NB204_203.out
            have hms65_2 := NB204_208.out
            have hs66 : w64.cell? ⟨gb204, 1, none⟩ = some (.int .u64 0) := (blk_cell BK204.out 1).trans rfl
            have hfs66 := blk_frozen BK204.out 1
            have hns66_0 := NB203_204.out
            have hns66_2 := NB208_204.out
            have hms66_0 := NB204_203.out
            have hms66_2 := NB204_208.out
            have hs67 : w64.cell? ⟨gb204, 2, none⟩ = some (.int .u64 0) := (blk_cell BK204.out 2).trans rfl
            have hfs67 := blk_frozen BK204.out 2
            have hns67_0 := NB203_204.out
            have hns67_2 := NB208_204.out
            have hms67_0 := NB204_203.out
            have hms67_2 := NB204_208.out
            refine skip_ (w1 := ?_) (by rfl) rfl ?_ ?_
            rotate_left
            · go_simp
              rfl
            refine hK.out _ _ ⟨((cell_far (p := ⟨gb204, _, none⟩) NB208_204.out _).trans (((cell_far (p := ⟨gb204, _, none⟩) NB208_204.out _).trans (((cell_far (p := ⟨gb204, _, none⟩) NB208_204.out _).trans (hHeld.1)))))), ((cell_far (p := ⟨gb204, _, none⟩) NB208_204.out _).trans (((cell_far (p := ⟨gb204, _, none⟩) NB208_204.out _).trans (((cell_far (p := ⟨gb204, _, none⟩) NB208_204.out _).trans (hHeld.2.1)))))), ((cell_far (p := ⟨gb204, _, none⟩) NB208_204.out _).trans (((cell_far (p := ⟨gb204, _, none⟩) NB208_204.out _).trans (((cell_far (p := ⟨gb204, _, none⟩) NB208_204.out _).trans (hHeld.2.2))))))⟩ (fun hHeld => ?_)
            clear hK K
            refine done_ (done_of HT_.out (by kernel_rfl)) ?_
            try go_wp2
            refine bodyPost_ret (results_cell_row rfl _ _ gb204 24 #[.bool false, .int .u64 t222, .int .u64 t224] (0, 0) _ rfl (by (with_reducible repeat (first | refine blk_drewN ?_ _ | refine blk_drew ?_ | refine blk_alloc ?_ _)); refine blk_put (cs := #[.bool false, .int .u64 t222, .int .u64 0]) ?_ 2 _ rfl; (with_reducible repeat (first | refine blk_drewN ?_ _ | refine blk_drew ?_ | refine blk_alloc ?_ _)); refine blk_put (cs := #[.bool false, .int .u64 0, .int .u64 0]) ?_ 1 _ rfl; (with_reducible repeat (first | refine blk_drewN ?_ _ | refine blk_drew ?_ | refine blk_alloc ?_ _)); refine blk_put (cs := #[.bool false, .int .u64 0, .int .u64 0]) ?_ 0 _ rfl; exact blk_) Try.underlying24 rfl (by kernel_rfl)) rfl ?_
            exact ⟨by first | rfl | (simp [errW_none, errW_some] <;> rfl) | (simp [*, errW_none, errW_some] <;> rfl), bel_⟩
          · have H1 : ((curve_inf.f).bind fun bt225 => (some (bt225.1, bt225.2.1, bt225.2.2))) = some (r1, r2, r3) := by rw [if_neg (show ¬ (some q220).isNone = true by simp)] at H; exact H
            clear H
            have H := H1
            clear H1
            try simp only [errW_none, errW_some]
            replace H := Option.bind_eq_some_iff.mp H
            obtain ⟨⟨t225, t226, t227⟩, A680, H⟩ := H
            (try dsimp only at H)
            have A68 := Aside0.mk A680
            clear A680
            simp only [Option.some.injEq, Prod.mk.injEq] at H
            obtain ⟨rfl, rfl, rfl⟩ := H
            have hnb69 := NB208_203.out
            have hnc69 := NB203_208.out
            have hnb70 := NB208_204.out
            have hnc70 := NB204_208.out
            have hcz71_0 : wr.cell? ⟨gb208, 0, none⟩ = some (.int .u64 x209000_1) := (blk_cell BK208.out 0).trans rfl
            have hcz71_1 : wr.cell? ⟨gb208, 1, none⟩ = some (.int .u64 x209001_1) := (blk_cell BK208.out 1).trans rfl
            have hcz71_2 : wr.cell? ⟨gb208, 2, none⟩ = some (.int .u64 x209002_1) := (blk_cell BK208.out 2).trans rfl
            have hfz71_0 := blk_frozen BK208.out 0
            have hfz71_1 := blk_frozen BK208.out 1
            have hfz71_2 := blk_frozen BK208.out 2
            go_wp2_with (first | ((with_reducible refine gate_callee (f := 49) rfl ?_); refine goesL_ (some 35) rfl rfl Try.func49 (by kernel_rfl) rfl #[.int .u64 1152921505151057923, .int .u64 x209002_1] rfl lna_ ?_; (with_reducible refine (modular_Inv.calls 1152921505151057923 x209002_1 t218 (some q220) _ A56.out).mono ?_); rintro e w' ⟨rfl, ⟨nd, rfl⟩⟩; refine ⟨_, rfl, ?_⟩; (try simp only [errW_none, errW_some]); (repeat rw [World.drewN_drewN]); (try (rw [drewN_self wr]; generalize hq_ : World.drewN wr _ = wr; have n0_ : Aside0 (wr.heap[gb203]? = some (.cells #[.bool false, .int .u64 t206, .int .u64 t207] 24 (0, 0))) := ⟨by rw [← hq_]; exact blk_⟩; have n1_ : Aside0 (wr.heap[gb204]? = some (.cells #[.bool false, .int .u64 0, .int .u64 0] 24 (0, 0))) := ⟨by rw [← hq_]; exact blk_⟩; have n2_ : Aside0 (wr.heap[gb208]? = some (.cells #[.int .u64 x209000_1, .int .u64 x209001_1, .int .u64 x209002_1] 63 (0, 0))) := ⟨by rw [← hq_]; exact blk_⟩; have n3_ : Aside0 (Below w.heap.size w wr) := ⟨by rw [← hq_]; exact bel_⟩; clear BK203 BK204 BK208 HB hq_; have BK203 := n0_; have BK204 := n1_; have BK208 := n2_; have HB := n3_; clear n0_ n1_ n2_ n3_))) | ((with_reducible refine gate_callee (f := 50) rfl ?_); refine goesL_ (some 40) rfl rfl Try.func50 (by kernel_rfl) rfl #[] rfl lna_ ?_; (with_reducible refine (curve_inf.calls  t225 t226 t227 _ A68.out).mono ?_); rintro e w72 ⟨rfl, hb⟩; refine ⟨_, rfl, ?_⟩; have n0_ := Aside0.mk (blk_below (g := gb203) (o := .cells #[.bool false, .int .u64 t206, .int .u64 t207] 24 (0, 0)) blk_ hb); have n1_ := Aside0.mk (blk_below (g := gb204) (o := .cells #[.bool false, .int .u64 0, .int .u64 0] 24 (0, 0)) blk_ hb); have n2_ := Aside0.mk (blk_below (g := gb208) (o := .cells #[.int .u64 x209000_1, .int .u64 x209001_1, .int .u64 x209002_1] 63 (0, 0)) blk_ hb); have n3_ := Aside0.mk (below_step bel_ hb); clear BK203; clear BK204; clear BK208; clear HB; have BK203 := n0_; have BK204 := n1_; have BK208 := n2_; have HB := n3_; clear n0_ n1_ n2_ n3_; (try clear hb); (try clear hb2); (try clear hk); (try clear hi); have hnb73 := NB204_203.out; have hnc73 := NB203_204.out; have hcz74_0 : w72.cell? ⟨gb204, 0, none⟩ = some (.bool false) := (blk_cell BK204.out 0).trans rfl; have hcz74_1 : w72.cell? ⟨gb204, 1, none⟩ = some (.int .u64 0) := (blk_cell BK204.out 1).trans rfl; have hcz74_2 : w72.cell? ⟨gb204, 2, none⟩ = some (.int .u64 0) := (blk_cell BK204.out 2).trans rfl; have hfz74_0 := blk_frozen BK204.out 0; have hfz74_1 := blk_frozen BK204.out 1; have hfz74_2 := blk_frozen BK204.out 2))
            refine bodyPost_ret (results_cell_row rfl _ _ gb204 24 #[.bool t225, .int .u64 t226, .int .u64 t227] (0, 0) _ rfl (by (with_reducible repeat (first | refine blk_drewN ?_ _ | refine blk_drew ?_ | refine blk_alloc ?_ _)); refine blk_put (cs := #[.bool t225, .int .u64 t226, .int .u64 0]) ?_ 2 _ rfl; (with_reducible repeat (first | refine blk_drewN ?_ _ | refine blk_drew ?_ | refine blk_alloc ?_ _)); refine blk_put (cs := #[.bool t225, .int .u64 0, .int .u64 0]) ?_ 1 _ rfl; (with_reducible repeat (first | refine blk_drewN ?_ _ | refine blk_drew ?_ | refine blk_alloc ?_ _)); refine blk_put (cs := #[.bool false, .int .u64 0, .int .u64 0]) ?_ 0 _ rfl; exact blk_) Try.underlying24 rfl (by kernel_rfl)) rfl ?_
            exact ⟨by first | rfl | (simp [errW_none, errW_some] <;> rfl) | (simp [*, errW_none, errW_some] <;> rfl), bel_⟩

/-! ### curve_In: function 24 -/
/-! ### curve_Gen: function 39 -/
def curve_Gen.f  : Option (Bool × Int × Int) := some (false, 247390119040843104, 830327839767444578)
set_option maxHeartbeats 8000000 in
set_option maxRecDepth 100000 in
theorem curve_Gen.calls  (r1 : Bool) (r2 : Int) (r3 : Int) (w : World) (h : curve_Gen.f  = some (r1, r2, r3)) :
    Calls Try.prog 39 #[] w fun e w' => e = .returned (.agg #[.bool r1, .int .u64 r2, .int .u64 r3]) ∧ Below w.heap.size w w' := by
  have hu24 := Try.underlying24
  have HB := Aside0.mk (Below.refl w.heap.size w)
  have H : (some (false, 247390119040843104, 830327839767444578)) = some (r1, r2, r3) := h
  clear h
  simp only [Option.some.injEq, Prod.mk.injEq] at H
  obtain ⟨rfl, rfl, rfl⟩ := H
  go_enter Try.func39, Try.ntmps39
  go_wp2_with (first | ((with_reducible refine gate_dst (N := 0) rfl ?_); refine box_event ?hg (N := 0) ?hd (cs := #[.bool false, .int .u64 0, .int .u64 0]) (t := 24) ?hr ?_; (case hd => rfl); (case hg => rfl); (case hr => first | (go_simp; done) | (go_simp; rfl)); intro gb233 hg w1 hbox hb; have n0_ := Aside0.mk (below_step bel_ hb); have n1_ := Aside0.mk (hbox); have n2_ := Aside0.mk ((by rw [hg]; exact (below_size bel_) : w.heap.size ≤ gb233)); have n3_ := Aside0.mk ((by rw [hg]; exact (below_size bel_) : w.heap.size ≤ gb233)); clear HB; have HB := n0_; have BK233 := n1_; have GW233 := n2_; have GE233 := n3_; clear n0_ n1_ n2_ n3_; clear hb hbox hg; have hcz2_0 : w1.cell? ⟨gb233, 0, none⟩ = some (.bool false) := (blk_cell BK233.out 0).trans rfl; have hcz2_1 : w1.cell? ⟨gb233, 1, none⟩ = some (.int .u64 0) := (blk_cell BK233.out 1).trans rfl; have hcz2_2 : w1.cell? ⟨gb233, 2, none⟩ = some (.int .u64 0) := (blk_cell BK233.out 2).trans rfl; have hfz2_0 := blk_frozen BK233.out 0; have hfz2_1 := blk_frozen BK233.out 1; have hfz2_2 := blk_frozen BK233.out 2))
  refine bodyPost_ret (results_cell_row rfl _ _ gb233 24 #[.bool false, .int .u64 247390119040843104, .int .u64 830327839767444578] (0, 0) _ rfl (by (with_reducible repeat (first | refine blk_drewN ?_ _ | refine blk_drew ?_ | refine blk_alloc ?_ _)); refine blk_put (cs := #[.bool false, .int .u64 247390119040843104, .int .u64 0]) ?_ 2 _ rfl; (with_reducible repeat (first | refine blk_drewN ?_ _ | refine blk_drew ?_ | refine blk_alloc ?_ _)); refine blk_put (cs := #[.bool false, .int .u64 0, .int .u64 0]) ?_ 1 _ rfl; (with_reducible repeat (first | refine blk_drewN ?_ _ | refine blk_drew ?_ | refine blk_alloc ?_ _)); refine blk_put (cs := #[.bool false, .int .u64 0, .int .u64 0]) ?_ 0 _ rfl; exact blk_) Try.underlying24 rfl (by kernel_rfl)) rfl ?_
  exact ⟨by first | rfl | (simp [errW_none, errW_some] <;> rfl) | (simp [*, errW_none, errW_some] <;> rfl), bel_⟩

/-! ### obolref03_Wall: function 20 -/
/-! ### obolref03_less: function 44 -/
/-! ### obolref03_mul: function 45 -/
/-! ### obolref03_Over: function 65 -/
/-! ### obolref03_Slope: function 43 -/
end Go.Proofs.Ytibmidoepeghpaa.PCur
