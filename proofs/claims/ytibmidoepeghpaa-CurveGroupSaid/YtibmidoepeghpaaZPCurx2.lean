-- written for this claim by a program of this session (an adapted printer)
import Derived.Test.YtibmidoepeghpaaZPCurx0
import Derived.Test.YtibmidoepeghpaaZPCurx1
namespace Go.Proofs.Ytibmidoepeghpaa.PCur
open Go.Proofs.Ytibmidoepeghpaa.G
open Go.Proofs.Ytibmidoepeghpaa.PMod (errW errW_none errW_some)
open Go.RowKit Go.Proofs.YtibmidoepeghpaaW.PrintWords Go.Proofs.YtibmidoepeghpaaW.PrintLast Go.Proofs.YtibmidoepeghpaaW.PrintMore
attribute [local go_sem] max2_int min2_int max_two min_two max_three min_three max_four min_four   -- for this text's walks alone
set_option linter.unusedVariables false
set_option linter.unusedSimpArgs false

/-! ### curve_sum: function 42 -/
mutual
def curve_sum.j0 : Nat → Bool → Int → Int → Bool → Int → Int → Option (Bool × Int × Int)
  | 0, _, _, _, _, _, _ => none
  | k + 1, x116000, x116001, x116002, x117000, x117001, x117002 => (curve_sub.f x117002 x116002).bind fun t122 => ((curve_sub.f x117001 x116001).bind fun t123 => (if x116001 = x117001 then ((curve_mul.f x116001 x116001).bind fun t124 => ((curve_mul.f 3 t124).bind fun t125 => ((modular_Add.f 1152921505151057923 t125 1).bind fun t126 => ((modular_Add.f 1152921505151057923 x116002 x116002).bind fun t127 => (curve_sum.j1 k t126 t127 x116000 x116001 x116002 x117000 x117001 x117002))))) else (curve_sum.j1 k t122 t123 x116000 x116001 x116002 x117000 x117001 x117002)))
def curve_sum.j1 : Nat → Int → Int → Bool → Int → Int → Bool → Int → Int → Option (Bool × Int × Int)
  | 0, _, _, _, _, _, _, _, _ => none
  | k + 1, x5, x6, x116000, x116001, x116002, x117000, x117001, x117002 => (modular_Inv.f 1152921505151057923 x6).bind fun bt128 => (if bt128.2.isNone = true then ((curve_mul.f x5 bt128.1).bind fun t131 => ((curve_mul.f t131 t131).bind fun t132 => ((curve_sub.f t132 x116001).bind fun t133 => ((curve_sub.f t133 x117001).bind fun t134 => ((curve_sub.f x116001 t134).bind fun t135 => ((curve_mul.f t131 t135).bind fun t136 => ((curve_sub.f t136 x116002).bind fun t137 => (some (false, t134, t137))))))))) else ((curve_inf.f).bind fun bt138 => (some (bt138.1, bt138.2.1, bt138.2.2))))
end
def curve_sum.f (k : Nat) (a0_0 : Bool) (a0_1 : Int) (a0_2 : Int) (a1_0 : Bool) (a1_1 : Int) (a1_2 : Int) : Option (Bool × Int × Int) := if a0_0 = true then (some (a1_0, a1_1, a1_2)) else (if a1_0 = true then (some (a0_0, a0_1, a0_2)) else (if a0_1 = a1_1 then ((modular_Add.f 1152921505151057923 a0_2 a1_2).bind fun t118 => (if t118 = 0 then ((curve_inf.f).bind fun bt119 => (some (bt119.1, bt119.2.1, bt119.2.2))) else (curve_sum.j0 k a0_0 a0_1 a0_2 a1_0 a1_1 a1_2))) else (curve_sum.j0 k a0_0 a0_1 a0_2 a1_0 a1_1 a1_2)))
def curve_sum.T7 : Bool × List (List Nat × List Nat) := (true, [([], []), ([0], [0]), ([], []), ([2], [2]), ([1, 3], [1, 3]), ([], []), ([5], [5]), ([], []), ([7], [7]), ([6, 8, 4], [6, 8]), ([4, 9, 0, 1, 2, 3, 4], [4]), ([9, 10, 0, 1, 2, 3, 4, 5, 6, 7, 8, 9, 10], [9])])
def curve_sum.B7 : List Nat := [0, 1, 0, 4, 15, 0, 32, 0, 128, 511, 1023, 2047]
theorem curve_sum.tab7 : rtab .any (opsOf Try.f42 7) = curve_sum.T7 := by kernel_rfl
theorem curve_sum.bits7 : waitsOk curve_sum.T7.2 curve_sum.B7 = true := by kernel_rfl
def curve_sum.T9 : Bool × List (List Nat × List Nat) := (true, [([], []), ([0], [0]), ([], []), ([2], [2]), ([1, 3], [1, 3]), ([4, 4], [4]), ([5, 5], [5]), ([], []), ([7], [7]), ([], []), ([9], [9]), ([8, 10, 6], [8, 10]), ([6, 11, 0, 1, 2, 3, 4, 5, 6], [6]), ([11, 12, 0, 1, 2, 3, 4, 5, 6, 7, 8, 9, 10, 11, 12], [11])])
def curve_sum.B9 : List Nat := [0, 1, 0, 4, 15, 31, 63, 0, 128, 0, 512, 2047, 4095, 8191]
theorem curve_sum.tab9 : rtab .any (opsOf Try.f42 9) = curve_sum.T9 := by kernel_rfl
theorem curve_sum.bits9 : waitsOk curve_sum.T9.2 curve_sum.B9 = true := by kernel_rfl
def curve_sum.T14 : Bool × List (List Nat × List Nat) := (true, [([], []), ([], []), ([0, 1], [0, 1]), ([], []), ([3], [3]), ([2, 4, 2], [2, 4]), ([], []), ([6], [6]), ([5, 7, 5], [5, 7]), ([8, 8, 0, 1, 2, 3, 4, 5, 6, 7, 8], [8])])
def curve_sum.B14 : List Nat := [0, 0, 3, 0, 8, 31, 0, 64, 255, 511]
theorem curve_sum.tab14 : rtab .any (opsOf Try.f42 14) = curve_sum.T14 := by kernel_rfl
theorem curve_sum.bits14 : waitsOk curve_sum.T14.2 curve_sum.B14 = true := by kernel_rfl
def curve_sum.T15 : Bool × List (List Nat × List Nat) := (true, [([], []), ([], []), ([], []), ([2], [2]), ([], []), ([3, 4], [3, 4]), ([1, 5, 5], [1, 5]), ([], []), ([7], [7]), ([6, 8, 6], [6, 8]), ([0, 9], [0, 9]), ([10, 9, 0, 1, 2, 3, 4, 5, 6, 7, 8, 9, 10], [10])])
def curve_sum.B15 : List Nat := [0, 0, 0, 4, 0, 28, 62, 0, 128, 510, 1023, 2047]
theorem curve_sum.tab15 : rtab .any (opsOf Try.f42 15) = curve_sum.T15 := by kernel_rfl
theorem curve_sum.bits15 : waitsOk curve_sum.T15.2 curve_sum.B15 = true := by kernel_rfl
set_option maxHeartbeats 8000000 in
set_option maxRecDepth 100000 in
theorem curve_sum.calls (k : Nat) (a0_0 : Bool) (a0_1 : Int) (a0_2 : Int) (a1_0 : Bool) (a1_1 : Int) (a1_2 : Int) (r1 : Bool) (r2 : Int) (r3 : Int) (w : World) (h : curve_sum.f k a0_0 a0_1 a0_2 a1_0 a1_1 a1_2 = some (r1, r2, r3)) :
    Calls Try.prog 42 #[.agg #[.bool a0_0, .int .u64 a0_1, .int .u64 a0_2], .agg #[.bool a1_0, .int .u64 a1_1, .int .u64 a1_2]] w fun e w' => e = .returned (.agg #[.bool r1, .int .u64 r2, .int .u64 r3]) ∧ Below w.heap.size w w' := by
  have hu24 := Try.underlying24
  have hu35 := Try.underlying35
  have HB := Aside0.mk (Below.refl w.heap.size w)
  have H : (if a0_0 = true then (some (a1_0, a1_1, a1_2)) else (if a1_0 = true then (some (a0_0, a0_1, a0_2)) else (if a0_1 = a1_1 then ((modular_Add.f 1152921505151057923 a0_2 a1_2).bind fun t118 => (if t118 = 0 then ((curve_inf.f).bind fun bt119 => (some (bt119.1, bt119.2.1, bt119.2.2))) else (curve_sum.j0 k a0_0 a0_1 a0_2 a1_0 a1_1 a1_2))) else (curve_sum.j0 k a0_0 a0_1 a0_2 a1_0 a1_1 a1_2)))) = some (r1, r2, r3) := h
  clear h
  have HC3 := Aside0.mk H
  clear H
  go_enter Try.func42, Try.ntmps42
  go_upto_block 0 with (first | ((with_reducible refine gate_dst (N := 2) rfl ?_); refine box_event ?hg (N := 2) ?hd (cs := #[.bool a0_0, .int .u64 a0_1, .int .u64 a0_2]) (t := 24) ?hr ?_; (case hd => rfl); (case hg => rfl); (case hr => first | (go_simp; done) | (go_simp; rfl)); intro gb115 hg w4 hbox hb; have n0_ := Aside0.mk (below_step bel_ hb); have n1_ := Aside0.mk (hbox); have n2_ := Aside0.mk ((by rw [hg]; exact (below_size bel_) : w.heap.size ≤ gb115)); have n3_ := Aside0.mk ((by rw [hg]; exact (below_size bel_) : w.heap.size ≤ gb115)); clear HB; have HB := n0_; have BK115 := n1_; have GW115 := n2_; have GE115 := n3_; clear n0_ n1_ n2_ n3_; clear hb hbox hg) | ((with_reducible refine gate_dst (N := 3) rfl ?_); refine box_event ?hg (N := 3) ?hd (cs := #[.bool a1_0, .int .u64 a1_1, .int .u64 a1_2]) (t := 24) ?hr ?_; (case hd => rfl); (case hg => rfl); (case hr => first | (go_simp; done) | (go_simp; rfl)); intro gb116 hg w5 hbox hb; have n0_ := Aside0.mk (blk_below (g := gb115) (o := .cells #[.bool a0_0, .int .u64 a0_1, .int .u64 a0_2] 24 (0, 0)) blk_ hb); have n1_ := Aside0.mk (below_step bel_ hb); have n2_ := Aside0.mk (hbox); have n3_ := Aside0.mk ((by rw [hg]; exact (below_size bel_) : w.heap.size ≤ gb116)); have n4_ := Aside0.mk ((by rw [hg]; exact (below_size bel_) : w.heap.size ≤ gb116)); have n5_ := Aside0.mk ((by rw [hg]; exact Nat.ne_of_lt (blk_lt (g := gb115) (o := .cells #[.bool a0_0, .int .u64 a0_1, .int .u64 a0_2] 24 (0, 0)) blk_) : gb115 ≠ gb116)); have n6_ := Aside0.mk ((by rw [hg]; exact Nat.ne_of_gt (blk_lt (g := gb115) (o := .cells #[.bool a0_0, .int .u64 a0_1, .int .u64 a0_2] 24 (0, 0)) blk_) : gb116 ≠ gb115)); clear BK115; clear HB; have BK115 := n0_; have HB := n1_; have BK116 := n2_; have GW116 := n3_; have GE116 := n4_; have NB115_116 := n5_; have NB116_115 := n6_; clear n0_ n1_ n2_ n3_ n4_ n5_ n6_; clear hb hbox hg) | ((with_reducible refine gate_dst (N := 4) rfl ?_); refine box_event ?hg (N := 4) ?hd (cs := #[.bool false, .int .u64 0, .int .u64 0]) (t := 24) ?hr ?_; (case hd => rfl); (case hg => rfl); (case hr => first | (go_simp; done) | (go_simp; rfl)); intro gb117 hg w6 hbox hb; have n0_ := Aside0.mk (blk_below (g := gb115) (o := .cells #[.bool a0_0, .int .u64 a0_1, .int .u64 a0_2] 24 (0, 0)) blk_ hb); have n1_ := Aside0.mk (blk_below (g := gb116) (o := .cells #[.bool a1_0, .int .u64 a1_1, .int .u64 a1_2] 24 (0, 0)) blk_ hb); have n2_ := Aside0.mk (below_step bel_ hb); have n3_ := Aside0.mk (hbox); have n4_ := Aside0.mk ((by rw [hg]; exact (below_size bel_) : w.heap.size ≤ gb117)); have n5_ := Aside0.mk ((by rw [hg]; exact (below_size bel_) : w.heap.size ≤ gb117)); have n6_ := Aside0.mk ((by rw [hg]; exact Nat.ne_of_lt (blk_lt (g := gb115) (o := .cells #[.bool a0_0, .int .u64 a0_1, .int .u64 a0_2] 24 (0, 0)) blk_) : gb115 ≠ gb117)); have n7_ := Aside0.mk ((by rw [hg]; exact Nat.ne_of_gt (blk_lt (g := gb115) (o := .cells #[.bool a0_0, .int .u64 a0_1, .int .u64 a0_2] 24 (0, 0)) blk_) : gb117 ≠ gb115)); have n8_ := Aside0.mk ((by rw [hg]; exact Nat.ne_of_lt (blk_lt (g := gb116) (o := .cells #[.bool a1_0, .int .u64 a1_1, .int .u64 a1_2] 24 (0, 0)) blk_) : gb116 ≠ gb117)); have n9_ := Aside0.mk ((by rw [hg]; exact Nat.ne_of_gt (blk_lt (g := gb116) (o := .cells #[.bool a1_0, .int .u64 a1_1, .int .u64 a1_2] 24 (0, 0)) blk_) : gb117 ≠ gb116)); clear BK115; clear BK116; clear HB; have BK115 := n0_; have BK116 := n1_; have HB := n2_; have BK117 := n3_; have GW117 := n4_; have GE117 := n5_; have NB115_117 := n6_; have NB117_115 := n7_; have NB116_117 := n8_; have NB117_116 := n9_; clear n0_ n1_ n2_ n3_ n4_ n5_ n6_ n7_ n8_ n9_; clear hb hbox hg))
  (try simp only [Act.put, List.setIfInBounds_toArray, List.set_cons_zero, List.set_cons_succ])
  go_cut [] (fun wc => ∃ (kq : Nat) (x116000_2 : Bool) (x116001_2 : Int) (x116002_2 : Int) (x118000_2 : Bool) (x118001_2 : Int) (x118002_2 : Int), Aside0 (curve_sum.j0 kq x116000_2 x116001_2 x116002_2 a1_0 a1_1 a1_2 = some (r1, r2, r3)) ∧ Aside0 (kq ≤ k) ∧ Aside0 (wc.heap[gb115]? = some (.cells #[.bool x116000_2, .int .u64 x116001_2, .int .u64 x116002_2] 24 (0, 0))) ∧ Aside0 (wc.heap[gb116]? = some (.cells #[.bool a1_0, .int .u64 a1_1, .int .u64 a1_2] 24 (0, 0))) ∧ Aside0 (wc.heap[gb117]? = some (.cells #[.bool x118000_2, .int .u64 x118001_2, .int .u64 x118002_2] 24 (0, 0))) ∧ Aside0 (Below w.heap.size w wc))
  case first =>
    have H := HC3.out
    clear HC3
    by_cases c7 : a0_0 = true
    · subst c7
      have H1 : (some (a1_0, a1_1, a1_2)) = some (r1, r2, r3) := by rw [if_pos rfl] at H; exact H
      clear H
      have H := H1
      clear H1
      simp only [Option.some.injEq, Prod.mk.injEq] at H
      obtain ⟨rfl, rfl, rfl⟩ := H
      have hnb8 := NB115_116.out
      have hnc8 := NB116_115.out
      have hnb9 := NB115_117.out
      have hnc9 := NB117_115.out
      have hcz10_0 : w6.cell? ⟨gb115, 0, none⟩ = some (.bool true) := (blk_cell BK115.out 0).trans rfl
      have hcz10_1 : w6.cell? ⟨gb115, 1, none⟩ = some (.int .u64 a0_1) := (blk_cell BK115.out 1).trans rfl
      have hcz10_2 : w6.cell? ⟨gb115, 2, none⟩ = some (.int .u64 a0_2) := (blk_cell BK115.out 2).trans rfl
      have hfz10_0 := blk_frozen BK115.out 0
      have hfz10_1 := blk_frozen BK115.out 1
      have hfz10_2 := blk_frozen BK115.out 2
      have hnb11 := NB116_117.out
      have hnc11 := NB117_116.out
      have hcz12_0 : w6.cell? ⟨gb116, 0, none⟩ = some (.bool a1_0) := (blk_cell BK116.out 0).trans rfl
      have hcz12_1 : w6.cell? ⟨gb116, 1, none⟩ = some (.int .u64 a1_1) := (blk_cell BK116.out 1).trans rfl
      have hcz12_2 : w6.cell? ⟨gb116, 2, none⟩ = some (.int .u64 a1_2) := (blk_cell BK116.out 2).trans rfl
      have hfz12_0 := blk_frozen BK116.out 0
      have hfz12_1 := blk_frozen BK116.out 1
      have hfz12_2 := blk_frozen BK116.out 2
      have hcz13_0 : w6.cell? ⟨gb117, 0, none⟩ = some (.bool false) := (blk_cell BK117.out 0).trans rfl
      have hcz13_1 : w6.cell? ⟨gb117, 1, none⟩ = some (.int .u64 0) := (blk_cell BK117.out 1).trans rfl
      have hcz13_2 : w6.cell? ⟨gb117, 2, none⟩ = some (.int .u64 0) := (blk_cell BK117.out 2).trans rfl
      have hfz13_0 := blk_frozen BK117.out 0
      have hfz13_1 := blk_frozen BK117.out 1
      have hfz13_2 := blk_frozen BK117.out 2
      go_wp2
      refine bodyPost_ret (results_cell_row rfl _ _ gb117 24 #[.bool a1_0, .int .u64 a1_1, .int .u64 a1_2] (0, 0) _ rfl (by (with_reducible repeat (first | refine blk_drewN ?_ _ | refine blk_drew ?_ | refine blk_alloc ?_ _)); refine blk_put (cs := #[.bool a1_0, .int .u64 a1_1, .int .u64 0]) ?_ 2 _ rfl; (with_reducible repeat (first | refine blk_drewN ?_ _ | refine blk_drew ?_ | refine blk_alloc ?_ _)); refine blk_put (cs := #[.bool a1_0, .int .u64 0, .int .u64 0]) ?_ 1 _ rfl; (with_reducible repeat (first | refine blk_drewN ?_ _ | refine blk_drew ?_ | refine blk_alloc ?_ _)); refine blk_put (cs := #[.bool false, .int .u64 0, .int .u64 0]) ?_ 0 _ rfl; (with_reducible repeat (first | refine blk_drewN ?_ _ | refine blk_drew ?_ | refine blk_alloc ?_ _)); refine blk_far ?_ NB117_115.out _; (with_reducible repeat (first | refine blk_drewN ?_ _ | refine blk_drew ?_ | refine blk_alloc ?_ _)); refine blk_far ?_ NB117_115.out _; (with_reducible repeat (first | refine blk_drewN ?_ _ | refine blk_drew ?_ | refine blk_alloc ?_ _)); refine blk_far ?_ NB117_115.out _; exact blk_) Try.underlying24 rfl (by kernel_rfl)) rfl ?_
      exact ⟨by first | rfl | (simp [errW_none, errW_some] <;> rfl) | (simp [*, errW_none, errW_some] <;> rfl), bel_⟩
    · replace c7 := Bool.eq_false_iff.mpr c7
      subst c7
      have H1 : (if a1_0 = true then (some (false, a0_1, a0_2)) else (if a0_1 = a1_1 then ((modular_Add.f 1152921505151057923 a0_2 a1_2).bind fun t118 => (if t118 = 0 then ((curve_inf.f).bind fun bt119 => (some (bt119.1, bt119.2.1, bt119.2.2))) else (curve_sum.j0 k false a0_1 a0_2 a1_0 a1_1 a1_2))) else (curve_sum.j0 k false a0_1 a0_2 a1_0 a1_1 a1_2))) = some (r1, r2, r3) := by rw [if_neg (show ¬ (false = true) by decide)] at H; exact H
      clear H
      have H := H1
      clear H1
      by_cases c14 : a1_0 = true
      · subst c14
        have H1 : (some (false, a0_1, a0_2)) = some (r1, r2, r3) := by rw [if_pos rfl] at H; exact H
        clear H
        have H := H1
        clear H1
        simp only [Option.some.injEq, Prod.mk.injEq] at H
        obtain ⟨rfl, rfl, rfl⟩ := H
        have hnb15 := NB115_116.out
        have hnc15 := NB116_115.out
        have hnb16 := NB115_117.out
        have hnc16 := NB117_115.out
        have hcz17_0 : w6.cell? ⟨gb115, 0, none⟩ = some (.bool false) := (blk_cell BK115.out 0).trans rfl
        have hcz17_1 : w6.cell? ⟨gb115, 1, none⟩ = some (.int .u64 a0_1) := (blk_cell BK115.out 1).trans rfl
        have hcz17_2 : w6.cell? ⟨gb115, 2, none⟩ = some (.int .u64 a0_2) := (blk_cell BK115.out 2).trans rfl
        have hfz17_0 := blk_frozen BK115.out 0
        have hfz17_1 := blk_frozen BK115.out 1
        have hfz17_2 := blk_frozen BK115.out 2
        have hnb18 := NB116_117.out
        have hnc18 := NB117_116.out
        have hcz19_0 : w6.cell? ⟨gb116, 0, none⟩ = some (.bool true) := (blk_cell BK116.out 0).trans rfl
        have hcz19_1 : w6.cell? ⟨gb116, 1, none⟩ = some (.int .u64 a1_1) := (blk_cell BK116.out 1).trans rfl
        have hcz19_2 : w6.cell? ⟨gb116, 2, none⟩ = some (.int .u64 a1_2) := (blk_cell BK116.out 2).trans rfl
        have hfz19_0 := blk_frozen BK116.out 0
        have hfz19_1 := blk_frozen BK116.out 1
        have hfz19_2 := blk_frozen BK116.out 2
        have hcz20_0 : w6.cell? ⟨gb117, 0, none⟩ = some (.bool false) := (blk_cell BK117.out 0).trans rfl
        have hcz20_1 : w6.cell? ⟨gb117, 1, none⟩ = some (.int .u64 0) := (blk_cell BK117.out 1).trans rfl
        have hcz20_2 : w6.cell? ⟨gb117, 2, none⟩ = some (.int .u64 0) := (blk_cell BK117.out 2).trans rfl
        have hfz20_0 := blk_frozen BK117.out 0
        have hfz20_1 := blk_frozen BK117.out 1
        have hfz20_2 := blk_frozen BK117.out 2
        go_wp2
        refine bodyPost_ret (results_cell_row rfl _ _ gb117 24 #[.bool false, .int .u64 a0_1, .int .u64 a0_2] (0, 0) _ rfl (by (with_reducible repeat (first | refine blk_drewN ?_ _ | refine blk_drew ?_ | refine blk_alloc ?_ _)); refine blk_put (cs := #[.bool false, .int .u64 a0_1, .int .u64 0]) ?_ 2 _ rfl; (with_reducible repeat (first | refine blk_drewN ?_ _ | refine blk_drew ?_ | refine blk_alloc ?_ _)); refine blk_put (cs := #[.bool false, .int .u64 0, .int .u64 0]) ?_ 1 _ rfl; (with_reducible repeat (first | refine blk_drewN ?_ _ | refine blk_drew ?_ | refine blk_alloc ?_ _)); refine blk_put (cs := #[.bool false, .int .u64 0, .int .u64 0]) ?_ 0 _ rfl; exact blk_) Try.underlying24 rfl (by kernel_rfl)) rfl ?_
        exact ⟨by first | rfl | (simp [errW_none, errW_some] <;> rfl) | (simp [*, errW_none, errW_some] <;> rfl), bel_⟩
      · replace c14 := Bool.eq_false_iff.mpr c14
        subst c14
        have H1 : (if a0_1 = a1_1 then ((modular_Add.f 1152921505151057923 a0_2 a1_2).bind fun t118 => (if t118 = 0 then ((curve_inf.f).bind fun bt119 => (some (bt119.1, bt119.2.1, bt119.2.2))) else (curve_sum.j0 k false a0_1 a0_2 false a1_1 a1_2))) else (curve_sum.j0 k false a0_1 a0_2 false a1_1 a1_2)) = some (r1, r2, r3) := by rw [if_neg (show ¬ (false = true) by decide)] at H; exact H
        clear H
        have H := H1
        clear H1
        by_cases c21 : a0_1 = a1_1
        · rw [if_pos c21] at H
          have c21b0 : (a0_1 == a1_1) = true := beq_iff_eq.mpr c21
          have c21b1 : (a0_1 != a1_1) = false := bne_eq_false_iff_eq.mpr c21
          clear c21
          (first | rw [c21b0] | (simp only [i64_w, i32_w]; rw [c21b0]) | skip)
          replace H := Option.bind_eq_some_iff.mp H
          obtain ⟨t118, A220, H⟩ := H
          (try dsimp only at H)
          have A22 := Aside0.mk A220
          clear A220
          by_cases c23 : t118 = 0
          · rw [if_pos c23] at H
            have c23b0 : (t118 == 0) = true := beq_iff_eq.mpr c23
            have c23b1 : (t118 != 0) = false := bne_eq_false_iff_eq.mpr c23
            clear c23
            replace H := Option.bind_eq_some_iff.mp H
            obtain ⟨⟨t119, t120, t121⟩, A240, H⟩ := H
            (try dsimp only at H)
            have A24 := Aside0.mk A240
            clear A240
            simp only [Option.some.injEq, Prod.mk.injEq] at H
            obtain ⟨rfl, rfl, rfl⟩ := H
            have hnb25 := NB115_116.out
            have hnc25 := NB116_115.out
            have hnb26 := NB115_117.out
            have hnc26 := NB117_115.out
            have hcz27_0 : w6.cell? ⟨gb115, 0, none⟩ = some (.bool false) := (blk_cell BK115.out 0).trans rfl
            have hcz27_1 : w6.cell? ⟨gb115, 1, none⟩ = some (.int .u64 a0_1) := (blk_cell BK115.out 1).trans rfl
            have hcz27_2 : w6.cell? ⟨gb115, 2, none⟩ = some (.int .u64 a0_2) := (blk_cell BK115.out 2).trans rfl
            have hfz27_0 := blk_frozen BK115.out 0
            have hfz27_1 := blk_frozen BK115.out 1
            have hfz27_2 := blk_frozen BK115.out 2
            have hnb28 := NB116_117.out
            have hnc28 := NB117_116.out
            have hcz29_0 : w6.cell? ⟨gb116, 0, none⟩ = some (.bool false) := (blk_cell BK116.out 0).trans rfl
            have hcz29_1 : w6.cell? ⟨gb116, 1, none⟩ = some (.int .u64 a1_1) := (blk_cell BK116.out 1).trans rfl
            have hcz29_2 : w6.cell? ⟨gb116, 2, none⟩ = some (.int .u64 a1_2) := (blk_cell BK116.out 2).trans rfl
            have hfz29_0 := blk_frozen BK116.out 0
            have hfz29_1 := blk_frozen BK116.out 1
            have hfz29_2 := blk_frozen BK116.out 2
            go_wp2_with (first | (go_at_call 52; (with_reducible refine (modular_Add.calls 1152921505151057923 a0_2 a1_2 t118 _ A22.out).mono ?_); rintro e w' ⟨rfl, ⟨nd, rfl⟩⟩; (repeat rw [World.drewN_drewN]); (try (rw [drewN_self w6]; generalize hq_ : World.drewN w6 _ = w6; have n0_ : Aside0 (w6.heap[gb115]? = some (.cells #[.bool false, .int .u64 a0_1, .int .u64 a0_2] 24 (0, 0))) := ⟨by rw [← hq_]; exact blk_⟩; have n1_ : Aside0 (w6.heap[gb116]? = some (.cells #[.bool false, .int .u64 a1_1, .int .u64 a1_2] 24 (0, 0))) := ⟨by rw [← hq_]; exact blk_⟩; have n2_ : Aside0 (w6.heap[gb117]? = some (.cells #[.bool false, .int .u64 0, .int .u64 0] 24 (0, 0))) := ⟨by rw [← hq_]; exact blk_⟩; have n3_ : Aside0 (Below w.heap.size w w6) := ⟨by rw [← hq_]; exact bel_⟩; clear BK115 BK116 BK117 HB hq_; have BK115 := n0_; have BK116 := n1_; have BK117 := n2_; have HB := n3_; clear n0_ n1_ n2_ n3_))) | ((with_reducible refine gate_callee (f := 50) rfl ?_); refine goesL_ (some 33) rfl rfl Try.func50 (by kernel_rfl) rfl #[] rfl lna_ ?_; (with_reducible refine (curve_inf.calls  t119 t120 t121 _ A24.out).mono ?_); rintro e w30 ⟨rfl, hb⟩; refine ⟨_, rfl, ?_⟩; have n0_ := Aside0.mk (blk_below (g := gb115) (o := .cells #[.bool false, .int .u64 a0_1, .int .u64 a0_2] 24 (0, 0)) blk_ hb); have n1_ := Aside0.mk (blk_below (g := gb116) (o := .cells #[.bool false, .int .u64 a1_1, .int .u64 a1_2] 24 (0, 0)) blk_ hb); have n2_ := Aside0.mk (blk_below (g := gb117) (o := .cells #[.bool false, .int .u64 0, .int .u64 0] 24 (0, 0)) blk_ hb); have n3_ := Aside0.mk (below_step bel_ hb); clear BK115; clear BK116; clear BK117; clear HB; have BK115 := n0_; have BK116 := n1_; have BK117 := n2_; have HB := n3_; clear n0_ n1_ n2_ n3_; (try clear hb); (try clear hb2); (try clear hk); (try clear hi); have hcz31_0 : w30.cell? ⟨gb117, 0, none⟩ = some (.bool false) := (blk_cell BK117.out 0).trans rfl; have hcz31_1 : w30.cell? ⟨gb117, 1, none⟩ = some (.int .u64 0) := (blk_cell BK117.out 1).trans rfl; have hcz31_2 : w30.cell? ⟨gb117, 2, none⟩ = some (.int .u64 0) := (blk_cell BK117.out 2).trans rfl; have hfz31_0 := blk_frozen BK117.out 0; have hfz31_1 := blk_frozen BK117.out 1; have hfz31_2 := blk_frozen BK117.out 2))
            refine bodyPost_ret (results_cell_row rfl _ _ gb117 24 #[.bool t119, .int .u64 t120, .int .u64 t121] (0, 0) _ rfl (by (with_reducible repeat (first | refine blk_drewN ?_ _ | refine blk_drew ?_ | refine blk_alloc ?_ _)); refine blk_put (cs := #[.bool t119, .int .u64 t120, .int .u64 0]) ?_ 2 _ rfl; (with_reducible repeat (first | refine blk_drewN ?_ _ | refine blk_drew ?_ | refine blk_alloc ?_ _)); refine blk_put (cs := #[.bool t119, .int .u64 0, .int .u64 0]) ?_ 1 _ rfl; (with_reducible repeat (first | refine blk_drewN ?_ _ | refine blk_drew ?_ | refine blk_alloc ?_ _)); refine blk_put (cs := #[.bool false, .int .u64 0, .int .u64 0]) ?_ 0 _ rfl; exact blk_) Try.underlying24 rfl (by kernel_rfl)) rfl ?_
            exact ⟨by first | rfl | (simp [errW_none, errW_some] <;> rfl) | (simp [*, errW_none, errW_some] <;> rfl), bel_⟩
          · rw [if_neg c23] at H
            have c23b0 : (t118 == 0) = false := beq_eq_false_iff_ne.mpr c23
            have c23b1 : (t118 != 0) = true := bne_iff_ne.mpr c23
            have H' := Aside0.mk H
            clear H
            have hnb32 := NB115_116.out
            have hnc32 := NB116_115.out
            have hnb33 := NB115_117.out
            have hnc33 := NB117_115.out
            have hcz34_0 : w6.cell? ⟨gb115, 0, none⟩ = some (.bool false) := (blk_cell BK115.out 0).trans rfl
            have hcz34_1 : w6.cell? ⟨gb115, 1, none⟩ = some (.int .u64 a0_1) := (blk_cell BK115.out 1).trans rfl
            have hcz34_2 : w6.cell? ⟨gb115, 2, none⟩ = some (.int .u64 a0_2) := (blk_cell BK115.out 2).trans rfl
            have hfz34_0 := blk_frozen BK115.out 0
            have hfz34_1 := blk_frozen BK115.out 1
            have hfz34_2 := blk_frozen BK115.out 2
            have hnb35 := NB116_117.out
            have hnc35 := NB117_116.out
            have hcz36_0 : w6.cell? ⟨gb116, 0, none⟩ = some (.bool false) := (blk_cell BK116.out 0).trans rfl
            have hcz36_1 : w6.cell? ⟨gb116, 1, none⟩ = some (.int .u64 a1_1) := (blk_cell BK116.out 1).trans rfl
            have hcz36_2 : w6.cell? ⟨gb116, 2, none⟩ = some (.int .u64 a1_2) := (blk_cell BK116.out 2).trans rfl
            have hfz36_0 := blk_frozen BK116.out 0
            have hfz36_1 := blk_frozen BK116.out 1
            have hfz36_2 := blk_frozen BK116.out 2
            go_wp2_with (first | (go_at_call 52; (with_reducible refine (modular_Add.calls 1152921505151057923 a0_2 a1_2 t118 _ A22.out).mono ?_); rintro e w' ⟨rfl, ⟨nd, rfl⟩⟩))
            go_meet
            case rel => exact ⟨_, (false), (a0_1), (a0_2), (false), (0), (0), H', ⟨by first | omega | exact Nat.le_refl _⟩, ⟨blk_⟩, ⟨blk_⟩, ⟨blk_⟩, ⟨bel_⟩⟩
        · rw [if_neg c21] at H
          have c21b0 : (a0_1 == a1_1) = false := beq_eq_false_iff_ne.mpr c21
          have c21b1 : (a0_1 != a1_1) = true := bne_iff_ne.mpr c21
          (first | rw [c21b0] | (simp only [i64_w, i32_w]; rw [c21b0]) | skip)
          have H' := Aside0.mk H
          clear H
          have hnb37 := NB115_116.out
          have hnc37 := NB116_115.out
          have hnb38 := NB115_117.out
          have hnc38 := NB117_115.out
          have hcz39_0 : w6.cell? ⟨gb115, 0, none⟩ = some (.bool false) := (blk_cell BK115.out 0).trans rfl
          have hcz39_1 : w6.cell? ⟨gb115, 1, none⟩ = some (.int .u64 a0_1) := (blk_cell BK115.out 1).trans rfl
          have hcz39_2 : w6.cell? ⟨gb115, 2, none⟩ = some (.int .u64 a0_2) := (blk_cell BK115.out 2).trans rfl
          have hfz39_0 := blk_frozen BK115.out 0
          have hfz39_1 := blk_frozen BK115.out 1
          have hfz39_2 := blk_frozen BK115.out 2
          have hnb40 := NB116_117.out
          have hnc40 := NB117_116.out
          have hcz41_0 : w6.cell? ⟨gb116, 0, none⟩ = some (.bool false) := (blk_cell BK116.out 0).trans rfl
          have hcz41_1 : w6.cell? ⟨gb116, 1, none⟩ = some (.int .u64 a1_1) := (blk_cell BK116.out 1).trans rfl
          have hcz41_2 : w6.cell? ⟨gb116, 2, none⟩ = some (.int .u64 a1_2) := (blk_cell BK116.out 2).trans rfl
          have hfz41_0 := blk_frozen BK116.out 0
          have hfz41_1 := blk_frozen BK116.out 1
          have hfz41_2 := blk_frozen BK116.out 2
          go_wp2
          go_meet
          case rel => exact ⟨_, (false), (a0_1), (a0_2), (false), (0), (0), H', ⟨by first | omega | exact Nat.le_refl _⟩, ⟨blk_⟩, ⟨blk_⟩, ⟨blk_⟩, ⟨bel_⟩⟩
  case rest =>
    clear HC3
    try clear c1
    try clear c2
    try clear p2
    try clear c3
    try clear c4
    try clear c5
    try clear c7
    try clear c8
    try clear c9
    try clear c11
    try clear c14
    try clear c15
    try clear c16
    try clear c18
    try clear c21
    try clear c21b0
    try clear c21b1
    try clear c23
    try clear c23b0
    try clear c23b1
    try clear c25
    try clear c26
    try clear c28
    try clear c32
    try clear c33
    try clear c35
    try clear c37
    try clear c38
    try clear c40
    try clear hcz10_0
    try clear hcz10_1
    try clear hcz10_2
    try clear hcz12_0
    try clear hcz12_1
    try clear hcz12_2
    try clear hcz13_0
    try clear hcz13_1
    try clear hcz13_2
    try clear hcz17_0
    try clear hcz17_1
    try clear hcz17_2
    try clear hcz19_0
    try clear hcz19_1
    try clear hcz19_2
    try clear hcz20_0
    try clear hcz20_1
    try clear hcz20_2
    try clear hcz27_0
    try clear hcz27_1
    try clear hcz27_2
    try clear hcz29_0
    try clear hcz29_1
    try clear hcz29_2
    try clear hcz31_0
    try clear hcz31_1
    try clear hcz31_2
    try clear hcz34_0
    try clear hcz34_1
    try clear hcz34_2
    try clear hcz36_0
    try clear hcz36_1
    try clear hcz36_2
    try clear hcz39_0
    try clear hcz39_1
    try clear hcz39_2
    try clear hcz41_0
    try clear hcz41_1
    try clear hcz41_2
    try clear hfz10_0
    try clear hfz10_1
    try clear hfz10_2
    try clear hfz12_0
    try clear hfz12_1
    try clear hfz12_2
    try clear hfz13_0
    try clear hfz13_1
    try clear hfz13_2
    try clear hfz17_0
    try clear hfz17_1
    try clear hfz17_2
    try clear hfz19_0
    try clear hfz19_1
    try clear hfz19_2
    try clear hfz20_0
    try clear hfz20_1
    try clear hfz20_2
    try clear hfz27_0
    try clear hfz27_1
    try clear hfz27_2
    try clear hfz29_0
    try clear hfz29_1
    try clear hfz29_2
    try clear hfz31_0
    try clear hfz31_1
    try clear hfz31_2
    try clear hfz34_0
    try clear hfz34_1
    try clear hfz34_2
    try clear hfz36_0
    try clear hfz36_1
    try clear hfz36_2
    try clear hfz39_0
    try clear hfz39_1
    try clear hfz39_2
    try clear hfz41_0
    try clear hfz41_1
    try clear hfz41_2
    obtain ⟨kq, x116000_2, x116001_2, x116002_2, x118000_2, x118001_2, x118002_2, HA, HJ2, BK115, BK116, BK117, HB⟩ := hcut
    cases kq with
    | zero => exact absurd HA.out (by simp [curve_sum.j0])
    | succ kj2 =>
      have H := HA.out
      clear HA
      simp only [curve_sum.j0] at H
      replace H := Option.bind_eq_some_iff.mp H
      obtain ⟨t122, A420, H⟩ := H
      (try dsimp only at H)
      have A42 := Aside0.mk A420
      clear A420
      replace H := Option.bind_eq_some_iff.mp H
      obtain ⟨t123, A430, H⟩ := H
      (try dsimp only at H)
      have A43 := Aside0.mk A430
      clear A430
      have HC44 := Aside0.mk H
      clear H
      try go_wp2
      (repeat rw [World.drewN_drewN])
      (try (rw [drewN_self wc]; generalize hq_ : World.drewN wc _ = wc; have n0_ : Aside0 (wc.heap[gb115]? = some (.cells #[.bool x116000_2, .int .u64 x116001_2, .int .u64 x116002_2] 24 (0, 0))) := ⟨by rw [← hq_]; exact blk_⟩; have n1_ : Aside0 (wc.heap[gb116]? = some (.cells #[.bool a1_0, .int .u64 a1_1, .int .u64 a1_2] 24 (0, 0))) := ⟨by rw [← hq_]; exact blk_⟩; have n2_ : Aside0 (wc.heap[gb117]? = some (.cells #[.bool x118000_2, .int .u64 x118001_2, .int .u64 x118002_2] 24 (0, 0))) := ⟨by rw [← hq_]; exact blk_⟩; have n3_ : Aside0 (Below w.heap.size w wc) := ⟨by rw [← hq_]; exact bel_⟩; clear BK115 BK116 BK117 HB hq_; have BK115 := n0_; have BK116 := n1_; have BK117 := n2_; have HB := n3_; clear n0_ n1_ n2_ n3_))
      have n0_ := Aside0.mk (blk_drew BK115.out)
      have n1_ := Aside0.mk (blk_drew BK116.out)
      have n2_ := Aside0.mk (blk_drew BK117.out)
      have n3_ := Aside0.mk (below_drew1 HB.out)
      clear BK115
      clear BK116
      clear BK117
      clear HB
      have BK115 := n0_
      have BK116 := n1_
      have BK117 := n2_
      have HB := n3_
      clear n0_ n1_ n2_ n3_
      refine start_ (n := 12) (S := fun w' => w'.cell? ⟨gb116, 0, none⟩ = some (.bool a1_0) ∧ w'.cell? ⟨gb116, 1, none⟩ = some (.int .u64 a1_1) ∧ w'.cell? ⟨gb116, 2, none⟩ = some (.int .u64 a1_2) ∧ w'.cell? ⟨gb115, 0, none⟩ = some (.bool x116000_2) ∧ w'.cell? ⟨gb115, 1, none⟩ = some (.int .u64 x116001_2) ∧ w'.cell? ⟨gb115, 2, none⟩ = some (.int .u64 x116002_2)) (ds := []) #[false, false, false, false, false, false, false, false, false, false, false, false] (by kernel_rfl) rfl rfl ⟨(blk_cell BK116.out 0).trans rfl, (blk_cell BK116.out 1).trans rfl, (blk_cell BK116.out 2).trans rfl, (blk_cell BK115.out 0).trans rfl, (blk_cell BK115.out 1).trans rfl, (blk_cell BK115.out 2).trans rfl⟩ (fun hHeld => ?_); refine with_tabW curve_sum.tab7 curve_sum.bits7 (fun HT_ HW_ => ?_)
      generalize wc.drew = w45 at BK115 BK116 BK117 HB hHeld ⊢
      refine pure_ (i := 0) (N := some 34) (v := ?_) (a' := ?_) #[true, false, false, false, false, false, false, false, false, false, false, false] rfl rfl (any_of HT_.out (by kernel_rfl)) (fun _ _ _ h => h) (Or.inl ⟨by rfl, ?_⟩) ?_ ?_
      rotate_left
      · intro w'
        go_simp
        with_reducible rfl
      rotate_left
      · simp only [Act.put, List.setIfInBounds_toArray, List.set_cons_zero, List.set_cons_succ, i64_w, i32_w]
        rfl
      refine pure_ (i := 2) (N := some 36) (v := ?_) (a' := ?_) #[true, false, true, false, false, false, false, false, false, false, false, false] rfl rfl (any_of HT_.out (by kernel_rfl)) (fun _ _ _ h => h) (Or.inl ⟨by rfl, ?_⟩) ?_ ?_
      rotate_left
      · intro w'
        go_simp
        with_reducible rfl
      rotate_left
      · simp only [Act.put, List.setIfInBounds_toArray, List.set_cons_zero, List.set_cons_succ, i64_w, i32_w]
        rfl
      refine pure_ (i := 5) (N := some 39) (v := ?_) (a' := ?_) #[true, false, true, false, false, true, false, false, false, false, false, false] rfl rfl (any_of HT_.out (by kernel_rfl)) (fun _ _ _ h => h) (Or.inl ⟨by rfl, ?_⟩) ?_ ?_
      rotate_left
      · intro w'
        go_simp
        with_reducible rfl
      rotate_left
      · simp only [Act.put, List.setIfInBounds_toArray, List.set_cons_zero, List.set_cons_succ, i64_w, i32_w]
        rfl
      refine pure_ (i := 7) (N := some 41) (v := ?_) (a' := ?_) #[true, false, true, false, false, true, false, true, false, false, false, false] rfl rfl (any_of HT_.out (by kernel_rfl)) (fun _ _ _ h => h) (Or.inl ⟨by rfl, ?_⟩) ?_ ?_
      rotate_left
      · intro w'
        go_simp
        with_reducible rfl
      rotate_left
      · simp only [Act.put, List.setIfInBounds_toArray, List.set_cons_zero, List.set_cons_succ, i64_w, i32_w]
        rfl
      refine take_ (i := 1) (N := some 35) (v := ?_) (a' := ?_) #[true, true, true, false, false, true, false, true, false, false, false, false] rfl rfl (take_ofW HT_.out HW_.out (by kernel_rfl)) (fun _ _ _ h => h) (Or.inl ⟨by rfl, ?_⟩) hHeld ?_ ?_
      rotate_left
      · rintro w' ⟨s0, s1, s2, s3, s4, s5⟩
        go_simp
        with_reducible rfl
      rotate_left
      · simp only [Act.put, List.setIfInBounds_toArray, List.set_cons_zero, List.set_cons_succ, i64_w, i32_w]
        rfl
      refine take_ (i := 3) (N := some 37) (v := ?_) (a' := ?_) #[true, true, true, true, false, true, false, true, false, false, false, false] rfl rfl (take_ofW HT_.out HW_.out (by kernel_rfl)) (fun _ _ _ h => h) (Or.inl ⟨by rfl, ?_⟩) hHeld ?_ ?_
      rotate_left
      · rintro w' ⟨s0, s1, s2, s3, s4, s5⟩
        go_simp
        with_reducible rfl
      rotate_left
      · simp only [Act.put, List.setIfInBounds_toArray, List.set_cons_zero, List.set_cons_succ, i64_w, i32_w]
        rfl
      refine take_ (i := 6) (N := some 40) (v := ?_) (a' := ?_) #[true, true, true, true, false, true, true, true, false, false, false, false] rfl rfl (take_ofW HT_.out HW_.out (by kernel_rfl)) (fun _ _ _ h => h) (Or.inl ⟨by rfl, ?_⟩) hHeld ?_ ?_
      rotate_left
      · rintro w' ⟨s0, s1, s2, s3, s4, s5⟩
        go_simp
        with_reducible rfl
      rotate_left
      · simp only [Act.put, List.setIfInBounds_toArray, List.set_cons_zero, List.set_cons_succ, i64_w, i32_w]
        rfl
      refine take_ (i := 8) (N := some 42) (v := ?_) (a' := ?_) #[true, true, true, true, false, true, true, true, true, false, false, false] rfl rfl (take_ofW HT_.out HW_.out (by kernel_rfl)) (fun _ _ _ h => h) (Or.inl ⟨by rfl, ?_⟩) hHeld ?_ ?_
      rotate_left
      · rintro w' ⟨s0, s1, s2, s3, s4, s5⟩
        go_simp
        with_reducible rfl
      rotate_left
      · simp only [Act.put, List.setIfInBounds_toArray, List.set_cons_zero, List.set_cons_succ, i64_w, i32_w]
        rfl
      refine one_ (i := 4) (N := some 38) #[true, true, true, true, true, true, true, true, true, false, false, false] rfl rfl (one_of HT_.out (by kernel_rfl)) (by decide) (fun K hK => ?_)
      refine goes_ Try.func41 (by kernel_rfl) rfl #[.int .u64 a1_2, .int .u64 x116002_2] (by rfl) rfl rfl lna_ ?_
      with_reducible refine (curve_sub.calls a1_2 x116002_2 t122 _ A42.out).mono ?_
      rintro e w' ⟨rfl, ⟨nd, rfl⟩⟩
      refine ⟨_, rfl, ?_⟩
      refine hK.out _ _ ⟨(blk_cell BK116.out 0).trans rfl, (blk_cell BK116.out 1).trans rfl, (blk_cell BK116.out 2).trans rfl, (blk_cell BK115.out 0).trans rfl, (blk_cell BK115.out 1).trans rfl, (blk_cell BK115.out 2).trans rfl⟩ (fun hHeld => ?_)
      clear hK K
      refine norm_ (a' := ?_) ?_ ?_
      rotate_left
      · show Act.put _ (some 38) _ = _
        simp only [Act.put, List.setIfInBounds_toArray, List.set_cons_zero, List.set_cons_succ, i64_w, i32_w]
        rfl
      refine one_ (i := 9) (N := some 43) #[true, true, true, true, true, true, true, true, true, true, false, false] rfl rfl (one_of HT_.out (by kernel_rfl)) (by decide) (fun K hK => ?_)
      refine goes_ Try.func41 (by kernel_rfl) rfl #[.int .u64 a1_1, .int .u64 x116001_2] (by rfl) rfl rfl lna_ ?_
      with_reducible refine (curve_sub.calls a1_1 x116001_2 t123 _ A43.out).mono ?_
      rintro e w' ⟨rfl, ⟨nd, rfl⟩⟩
      refine ⟨_, rfl, ?_⟩
      refine hK.out _ _ ⟨(blk_cell BK116.out 0).trans rfl, (blk_cell BK116.out 1).trans rfl, (blk_cell BK116.out 2).trans rfl, (blk_cell BK115.out 0).trans rfl, (blk_cell BK115.out 1).trans rfl, (blk_cell BK115.out 2).trans rfl⟩ (fun hHeld => ?_)
      clear hK K
      refine norm_ (a' := ?_) ?_ ?_
      rotate_left
      · show Act.put _ (some 43) _ = _
        simp only [Act.put, List.setIfInBounds_toArray, List.set_cons_zero, List.set_cons_succ, i64_w, i32_w]
        rfl
      refine pure_ (i := 10) (N := some 5) (v := ?_) (a' := ?_) #[true, true, true, true, true, true, true, true, true, true, true, false] rfl rfl (any_of HT_.out (by kernel_rfl)) (fun _ _ _ h => h) (Or.inl ⟨by rfl, ?_⟩) ?_ ?_
      rotate_left
      · intro w'
        go_simp
        with_reducible rfl
      rotate_left
      · simp only [Act.put, List.setIfInBounds_toArray, List.set_cons_zero, List.set_cons_succ, i64_w, i32_w]
        rfl
      refine pure_ (i := 11) (N := some 6) (v := ?_) (a' := ?_) #[true, true, true, true, true, true, true, true, true, true, true, true] rfl rfl (any_of HT_.out (by kernel_rfl)) (fun _ _ _ h => h) (Or.inl ⟨by rfl, ?_⟩) ?_ ?_
      rotate_left
      · intro w'
        go_simp
        with_reducible rfl
      rotate_left
      · simp only [Act.put, List.setIfInBounds_toArray, List.set_cons_zero, List.set_cons_succ, i64_w, i32_w]
        rfl
      refine done_ (done_of HT_.out (by kernel_rfl)) ?_
      have hnb46 := NB115_116.out
      have hnc46 := NB116_115.out
      have hnb47 := NB115_117.out
      have hnc47 := NB117_115.out
      have hcz48_0 : w45.cell? ⟨gb115, 0, none⟩ = some (.bool x116000_2) := (blk_cell BK115.out 0).trans rfl
      have hcz48_1 : w45.cell? ⟨gb115, 1, none⟩ = some (.int .u64 x116001_2) := (blk_cell BK115.out 1).trans rfl
      have hcz48_2 : w45.cell? ⟨gb115, 2, none⟩ = some (.int .u64 x116002_2) := (blk_cell BK115.out 2).trans rfl
      have hfz48_0 := blk_frozen BK115.out 0
      have hfz48_1 := blk_frozen BK115.out 1
      have hfz48_2 := blk_frozen BK115.out 2
      have hnb49 := NB116_117.out
      have hnc49 := NB117_116.out
      have hcz50_0 : w45.cell? ⟨gb116, 0, none⟩ = some (.bool a1_0) := (blk_cell BK116.out 0).trans rfl
      have hcz50_1 : w45.cell? ⟨gb116, 1, none⟩ = some (.int .u64 a1_1) := (blk_cell BK116.out 1).trans rfl
      have hcz50_2 : w45.cell? ⟨gb116, 2, none⟩ = some (.int .u64 a1_2) := (blk_cell BK116.out 2).trans rfl
      have hfz50_0 := blk_frozen BK116.out 0
      have hfz50_1 := blk_frozen BK116.out 1
      have hfz50_2 := blk_frozen BK116.out 2
      go_upto_if 48 with (fail)
      go_cut [5, 6] (fun v5 v6 wc => ∃ (kq : Nat) (x5_43 : Int) (x6_43 : Int), v5 = .int .u64 x5_43 ∧ v6 = .int .u64 x6_43 ∧ Aside0 (curve_sum.j1 kq x5_43 x6_43 x116000_2 x116001_2 x116002_2 a1_0 a1_1 a1_2 = some (r1, r2, r3)) ∧ Aside0 (kq ≤ kj2) ∧ Aside0 (wc.heap[gb115]? = some (.cells #[.bool x116000_2, .int .u64 x116001_2, .int .u64 x116002_2] 24 (0, 0))) ∧ Aside0 (wc.heap[gb116]? = some (.cells #[.bool a1_0, .int .u64 a1_1, .int .u64 a1_2] 24 (0, 0))) ∧ Aside0 (wc.heap[gb117]? = some (.cells #[.bool x118000_2, .int .u64 x118001_2, .int .u64 x118002_2] 24 (0, 0))) ∧ Aside0 (Below w.heap.size w wc))
      case first =>
        have H := HC44.out
        clear HC44
        by_cases c51 : x116001_2 = a1_1
        · rw [if_pos c51] at H
          have c51b0 : (x116001_2 == a1_1) = true := beq_iff_eq.mpr c51
          have c51b1 : (x116001_2 != a1_1) = false := bne_eq_false_iff_eq.mpr c51
          clear c51
          (first | rw [c51b0] | (simp only [i64_w, i32_w]; rw [c51b0]) | skip)
          replace H := Option.bind_eq_some_iff.mp H
          obtain ⟨t124, A520, H⟩ := H
          (try dsimp only at H)
          have A52 := Aside0.mk A520
          clear A520
          replace H := Option.bind_eq_some_iff.mp H
          obtain ⟨t125, A530, H⟩ := H
          (try dsimp only at H)
          have A53 := Aside0.mk A530
          clear A530
          replace H := Option.bind_eq_some_iff.mp H
          obtain ⟨t126, A540, H⟩ := H
          (try dsimp only at H)
          have A54 := Aside0.mk A540
          clear A540
          replace H := Option.bind_eq_some_iff.mp H
          obtain ⟨t127, A550, H⟩ := H
          (try dsimp only at H)
          have A55 := Aside0.mk A550
          clear A550
          have H' := Aside0.mk H
          clear H
          try go_wp2
          (repeat rw [World.drewN_drewN])
          (try (rw [drewN_self w45]; generalize hq_ : World.drewN w45 _ = w45; have n0_ : Aside0 (w45.heap[gb115]? = some (.cells #[.bool x116000_2, .int .u64 x116001_2, .int .u64 x116002_2] 24 (0, 0))) := ⟨by rw [← hq_]; exact blk_⟩; have n1_ : Aside0 (w45.heap[gb116]? = some (.cells #[.bool a1_0, .int .u64 a1_1, .int .u64 a1_2] 24 (0, 0))) := ⟨by rw [← hq_]; exact blk_⟩; have n2_ : Aside0 (w45.heap[gb117]? = some (.cells #[.bool x118000_2, .int .u64 x118001_2, .int .u64 x118002_2] 24 (0, 0))) := ⟨by rw [← hq_]; exact blk_⟩; have n3_ : Aside0 (Below w.heap.size w w45) := ⟨by rw [← hq_]; exact bel_⟩; clear BK115 BK116 BK117 HB hq_; have BK115 := n0_; have BK116 := n1_; have BK117 := n2_; have HB := n3_; clear n0_ n1_ n2_ n3_))
          have n0_ := Aside0.mk (blk_drew BK115.out)
          have n1_ := Aside0.mk (blk_drew BK116.out)
          have n2_ := Aside0.mk (blk_drew BK117.out)
          have n3_ := Aside0.mk (below_drew1 HB.out)
          clear BK115
          clear BK116
          clear BK117
          clear HB
          have BK115 := n0_
          have BK116 := n1_
          have BK117 := n2_
          have HB := n3_
          clear n0_ n1_ n2_ n3_
          refine start_ (n := 14) (S := fun w' => w'.cell? ⟨gb115, 0, none⟩ = some (.bool x116000_2) ∧ w'.cell? ⟨gb115, 1, none⟩ = some (.int .u64 x116001_2) ∧ w'.cell? ⟨gb115, 2, none⟩ = some (.int .u64 x116002_2)) (ds := []) #[false, false, false, false, false, false, false, false, false, false, false, false, false, false] (by kernel_rfl) rfl rfl ⟨(blk_cell BK115.out 0).trans rfl, (blk_cell BK115.out 1).trans rfl, (blk_cell BK115.out 2).trans rfl⟩ (fun hHeld => ?_); refine with_tabW curve_sum.tab9 curve_sum.bits9 (fun HT_ HW_ => ?_)
          generalize w45.drew = w56 at BK115 BK116 BK117 HB hHeld ⊢
          refine pure_ (i := 0) (N := some 49) (v := ?_) (a' := ?_) #[true, false, false, false, false, false, false, false, false, false, false, false, false, false] rfl rfl (any_of HT_.out (by kernel_rfl)) (fun _ _ _ h => h) (Or.inl ⟨by rfl, ?_⟩) ?_ ?_
          rotate_left
          · intro w'
            go_simp
            with_reducible rfl
          rotate_left
          · simp only [Act.put, List.setIfInBounds_toArray, List.set_cons_zero, List.set_cons_succ, i64_w, i32_w]
            rfl
          refine pure_ (i := 2) (N := some 51) (v := ?_) (a' := ?_) #[true, false, true, false, false, false, false, false, false, false, false, false, false, false] rfl rfl (any_of HT_.out (by kernel_rfl)) (fun _ _ _ h => h) (Or.inl ⟨by rfl, ?_⟩) ?_ ?_
          rotate_left
          · intro w'
            go_simp
            with_reducible rfl
          rotate_left
          · simp only [Act.put, List.setIfInBounds_toArray, List.set_cons_zero, List.set_cons_succ, i64_w, i32_w]
            rfl
          refine pure_ (i := 7) (N := some 56) (v := ?_) (a' := ?_) #[true, false, true, false, false, false, false, true, false, false, false, false, false, false] rfl rfl (any_of HT_.out (by kernel_rfl)) (fun _ _ _ h => h) (Or.inl ⟨by rfl, ?_⟩) ?_ ?_
          rotate_left
          · intro w'
            go_simp
            with_reducible rfl
          rotate_left
          · simp only [Act.put, List.setIfInBounds_toArray, List.set_cons_zero, List.set_cons_succ, i64_w, i32_w]
            rfl
          refine pure_ (i := 9) (N := some 58) (v := ?_) (a' := ?_) #[true, false, true, false, false, false, false, true, false, true, false, false, false, false] rfl rfl (any_of HT_.out (by kernel_rfl)) (fun _ _ _ h => h) (Or.inl ⟨by rfl, ?_⟩) ?_ ?_
          rotate_left
          · intro w'
            go_simp
            with_reducible rfl
          rotate_left
          · simp only [Act.put, List.setIfInBounds_toArray, List.set_cons_zero, List.set_cons_succ, i64_w, i32_w]
            rfl
          refine take_ (i := 1) (N := some 50) (v := ?_) (a' := ?_) #[true, true, true, false, false, false, false, true, false, true, false, false, false, false] rfl rfl (take_ofW HT_.out HW_.out (by kernel_rfl)) (fun _ _ _ h => h) (Or.inl ⟨by rfl, ?_⟩) hHeld ?_ ?_
          rotate_left
          · rintro w' ⟨s0, s1, s2⟩
            go_simp
            with_reducible rfl
          rotate_left
          · simp only [Act.put, List.setIfInBounds_toArray, List.set_cons_zero, List.set_cons_succ, i64_w, i32_w]
            rfl
          refine take_ (i := 3) (N := some 52) (v := ?_) (a' := ?_) #[true, true, true, true, false, false, false, true, false, true, false, false, false, false] rfl rfl (take_ofW HT_.out HW_.out (by kernel_rfl)) (fun _ _ _ h => h) (Or.inl ⟨by rfl, ?_⟩) hHeld ?_ ?_
          rotate_left
          · rintro w' ⟨s0, s1, s2⟩
            go_simp
            with_reducible rfl
          rotate_left
          · simp only [Act.put, List.setIfInBounds_toArray, List.set_cons_zero, List.set_cons_succ, i64_w, i32_w]
            rfl
          refine take_ (i := 8) (N := some 57) (v := ?_) (a' := ?_) #[true, true, true, true, false, false, false, true, true, true, false, false, false, false] rfl rfl (take_ofW HT_.out HW_.out (by kernel_rfl)) (fun _ _ _ h => h) (Or.inl ⟨by rfl, ?_⟩) hHeld ?_ ?_
          rotate_left
          · rintro w' ⟨s0, s1, s2⟩
            go_simp
            with_reducible rfl
          rotate_left
          · simp only [Act.put, List.setIfInBounds_toArray, List.set_cons_zero, List.set_cons_succ, i64_w, i32_w]
            rfl
          refine take_ (i := 10) (N := some 59) (v := ?_) (a' := ?_) #[true, true, true, true, false, false, false, true, true, true, true, false, false, false] rfl rfl (take_ofW HT_.out HW_.out (by kernel_rfl)) (fun _ _ _ h => h) (Or.inl ⟨by rfl, ?_⟩) hHeld ?_ ?_
          rotate_left
          · rintro w' ⟨s0, s1, s2⟩
            go_simp
            with_reducible rfl
          rotate_left
          · simp only [Act.put, List.setIfInBounds_toArray, List.set_cons_zero, List.set_cons_succ, i64_w, i32_w]
            rfl
          refine one_ (i := 4) (N := some 53) #[true, true, true, true, true, false, false, true, true, true, true, false, false, false] rfl rfl (one_of HT_.out (by kernel_rfl)) (by decide) (fun K hK => ?_)
          refine goes_ Try.func51 (by kernel_rfl) rfl #[.int .u64 x116001_2, .int .u64 x116001_2] (by rfl) rfl rfl lna_ ?_
          with_reducible refine (curve_mul.calls x116001_2 x116001_2 t124 _ A52.out).mono ?_
          rintro e w' ⟨rfl, ⟨nd, rfl⟩⟩
          refine ⟨_, rfl, ?_⟩
          refine hK.out _ _ ⟨(blk_cell BK115.out 0).trans rfl, (blk_cell BK115.out 1).trans rfl, (blk_cell BK115.out 2).trans rfl⟩ (fun hHeld => ?_)
          clear hK K
          refine norm_ (a' := ?_) ?_ ?_
          rotate_left
          · show Act.put _ (some 53) _ = _
            simp only [Act.put, List.setIfInBounds_toArray, List.set_cons_zero, List.set_cons_succ, i64_w, i32_w]
            rfl
          refine one_ (i := 5) (N := some 54) #[true, true, true, true, true, true, false, true, true, true, true, false, false, false] rfl rfl (one_of HT_.out (by kernel_rfl)) (by decide) (fun K hK => ?_)
          refine goes_ Try.func51 (by kernel_rfl) rfl #[.int .u64 3, .int .u64 t124] (by rfl) rfl rfl lna_ ?_
          with_reducible refine (curve_mul.calls 3 t124 t125 _ A53.out).mono ?_
          rintro e w' ⟨rfl, ⟨nd, rfl⟩⟩
          refine ⟨_, rfl, ?_⟩
          refine hK.out _ _ ⟨(blk_cell BK115.out 0).trans rfl, (blk_cell BK115.out 1).trans rfl, (blk_cell BK115.out 2).trans rfl⟩ (fun hHeld => ?_)
          clear hK K
          refine norm_ (a' := ?_) ?_ ?_
          rotate_left
          · show Act.put _ (some 54) _ = _
            simp only [Act.put, List.setIfInBounds_toArray, List.set_cons_zero, List.set_cons_succ, i64_w, i32_w]
            rfl
          refine one_ (i := 6) (N := some 55) #[true, true, true, true, true, true, true, true, true, true, true, false, false, false] rfl rfl (one_of HT_.out (by kernel_rfl)) (by decide) (fun K hK => ?_)
          refine goes_ Try.func52 (by kernel_rfl) rfl #[.int .u64 1152921505151057923, .int .u64 t125, .int .u64 1] (by rfl) rfl rfl lna_ ?_
          with_reducible refine (modular_Add.calls 1152921505151057923 t125 1 t126 _ A54.out).mono ?_
          rintro e w' ⟨rfl, ⟨nd, rfl⟩⟩
          refine ⟨_, rfl, ?_⟩
          refine hK.out _ _ ⟨(blk_cell BK115.out 0).trans rfl, (blk_cell BK115.out 1).trans rfl, (blk_cell BK115.out 2).trans rfl⟩ (fun hHeld => ?_)
          clear hK K
          refine norm_ (a' := ?_) ?_ ?_
          rotate_left
          · show Act.put _ (some 55) _ = _
            simp only [Act.put, List.setIfInBounds_toArray, List.set_cons_zero, List.set_cons_succ, i64_w, i32_w]
            rfl
          refine one_ (i := 11) (N := some 60) #[true, true, true, true, true, true, true, true, true, true, true, true, false, false] rfl rfl (one_of HT_.out (by kernel_rfl)) (by decide) (fun K hK => ?_)
          refine goes_ Try.func52 (by kernel_rfl) rfl #[.int .u64 1152921505151057923, .int .u64 x116002_2, .int .u64 x116002_2] (by rfl) rfl rfl lna_ ?_
          with_reducible refine (modular_Add.calls 1152921505151057923 x116002_2 x116002_2 t127 _ A55.out).mono ?_
          rintro e w' ⟨rfl, ⟨nd, rfl⟩⟩
          refine ⟨_, rfl, ?_⟩
          refine hK.out _ _ ⟨(blk_cell BK115.out 0).trans rfl, (blk_cell BK115.out 1).trans rfl, (blk_cell BK115.out 2).trans rfl⟩ (fun hHeld => ?_)
          clear hK K
          refine norm_ (a' := ?_) ?_ ?_
          rotate_left
          · show Act.put _ (some 60) _ = _
            simp only [Act.put, List.setIfInBounds_toArray, List.set_cons_zero, List.set_cons_succ, i64_w, i32_w]
            rfl
          refine pure_ (i := 12) (N := some 5) (v := ?_) (a' := ?_) #[true, true, true, true, true, true, true, true, true, true, true, true, true, false] rfl rfl (any_of HT_.out (by kernel_rfl)) (fun _ _ _ h => h) (Or.inl ⟨by rfl, ?_⟩) ?_ ?_
          rotate_left
          · intro w'
            go_simp
            with_reducible rfl
          rotate_left
          · simp only [Act.put, List.setIfInBounds_toArray, List.set_cons_zero, List.set_cons_succ, i64_w, i32_w]
            rfl
          refine pure_ (i := 13) (N := some 6) (v := ?_) (a' := ?_) #[true, true, true, true, true, true, true, true, true, true, true, true, true, true] rfl rfl (any_of HT_.out (by kernel_rfl)) (fun _ _ _ h => h) (Or.inl ⟨by rfl, ?_⟩) ?_ ?_
          rotate_left
          · intro w'
            go_simp
            with_reducible rfl
          rotate_left
          · simp only [Act.put, List.setIfInBounds_toArray, List.set_cons_zero, List.set_cons_succ, i64_w, i32_w]
            rfl
          refine done_ (done_of HT_.out (by kernel_rfl)) ?_
          try go_wp2
          go_meet
          case rel => exact ⟨_, (t126), (t127), (by first | rfl | (simp; done) | (simp [*]; done)), (by first | rfl | (simp; done) | (simp [*]; done)), H', ⟨by have := HJ2.out; first | omega | exact Nat.le_refl _⟩, ⟨blk_⟩, ⟨blk_⟩, ⟨blk_⟩, ⟨bel_⟩⟩
        · rw [if_neg c51] at H
          have c51b0 : (x116001_2 == a1_1) = false := beq_eq_false_iff_ne.mpr c51
          have c51b1 : (x116001_2 != a1_1) = true := bne_iff_ne.mpr c51
          (first | rw [c51b0] | (simp only [i64_w, i32_w]; rw [c51b0]) | skip)
          have H' := Aside0.mk H
          clear H
          go_wp2
          go_meet
          case rel => exact ⟨_, (t122), (t123), (by first | rfl | (simp; done) | (simp [*]; done)), (by first | rfl | (simp; done) | (simp [*]; done)), H', ⟨by have := HJ2.out; first | omega | exact Nat.le_refl _⟩, ⟨blk_⟩, ⟨blk_⟩, ⟨blk_⟩, ⟨bel_⟩⟩
      case rest =>
        clear HC44
        try clear c1
        try clear c2
        try clear p2
        try clear c3
        try clear c4
        try clear c5
        try clear c7
        try clear c8
        try clear c9
        try clear c11
        try clear c14
        try clear c15
        try clear c16
        try clear c18
        try clear c21
        try clear c21b0
        try clear c21b1
        try clear c23
        try clear c23b0
        try clear c23b1
        try clear c25
        try clear c26
        try clear c28
        try clear c32
        try clear c33
        try clear c35
        try clear c37
        try clear c38
        try clear c40
        try clear c41
        try clear c46
        try clear c47
        try clear c49
        try clear c50
        try clear c51
        try clear c51b0
        try clear c51b1
        try clear c52
        try clear hcz10_0
        try clear hcz10_1
        try clear hcz10_2
        try clear hcz12_0
        try clear hcz12_1
        try clear hcz12_2
        try clear hcz13_0
        try clear hcz13_1
        try clear hcz13_2
        try clear hcz17_0
        try clear hcz17_1
        try clear hcz17_2
        try clear hcz19_0
        try clear hcz19_1
        try clear hcz19_2
        try clear hcz20_0
        try clear hcz20_1
        try clear hcz20_2
        try clear hcz27_0
        try clear hcz27_1
        try clear hcz27_2
        try clear hcz29_0
        try clear hcz29_1
        try clear hcz29_2
        try clear hcz31_0
        try clear hcz31_1
        try clear hcz31_2
        try clear hcz34_0
        try clear hcz34_1
        try clear hcz34_2
        try clear hcz36_0
        try clear hcz36_1
        try clear hcz36_2
        try clear hcz39_0
        try clear hcz39_1
        try clear hcz39_2
        try clear hcz41_0
        try clear hcz41_1
        try clear hcz41_2
        try clear hcz48_0
        try clear hcz48_1
        try clear hcz48_2
        try clear hcz50_0
        try clear hcz50_1
        try clear hcz50_2
        try clear hfz10_0
        try clear hfz10_1
        try clear hfz10_2
        try clear hfz12_0
        try clear hfz12_1
        try clear hfz12_2
        try clear hfz13_0
        try clear hfz13_1
        try clear hfz13_2
        try clear hfz17_0
        try clear hfz17_1
        try clear hfz17_2
        try clear hfz19_0
        try clear hfz19_1
        try clear hfz19_2
        try clear hfz20_0
        try clear hfz20_1
        try clear hfz20_2
        try clear hfz27_0
        try clear hfz27_1
        try clear hfz27_2
        try clear hfz29_0
        try clear hfz29_1
        try clear hfz29_2
        try clear hfz31_0
        try clear hfz31_1
        try clear hfz31_2
        try clear hfz34_0
        try clear hfz34_1
        try clear hfz34_2
        try clear hfz36_0
        try clear hfz36_1
        try clear hfz36_2
        try clear hfz39_0
        try clear hfz39_1
        try clear hfz39_2
        try clear hfz41_0
        try clear hfz41_1
        try clear hfz41_2
        try clear hfz48_0
        try clear hfz48_1
        try clear hfz48_2
        try clear hfz50_0
        try clear hfz50_1
        try clear hfz50_2
        try clear p2
        obtain ⟨kq, x5_43, x6_43, rfl, rfl, HA, HJ43, BK115, BK116, BK117, HB⟩ := hcut
        cases kq with
        | zero => exact absurd HA.out (by simp [curve_sum.j1])
        | succ kj43 =>
          have H := HA.out
          clear HA
          simp only [curve_sum.j1] at H
          replace H := Option.bind_eq_some_iff.mp H
          obtain ⟨⟨t128, t129⟩, A570, H⟩ := H
          (try dsimp only at H)
          have A57 := Aside0.mk A570
          clear A570
          rcases t129 with _ | q130
          · have H1 : ((curve_mul.f x5_43 t128).bind fun t131 => ((curve_mul.f t131 t131).bind fun t132 => ((curve_sub.f t132 x116001_2).bind fun t133 => ((curve_sub.f t133 a1_1).bind fun t134 => ((curve_sub.f x116001_2 t134).bind fun t135 => ((curve_mul.f t131 t135).bind fun t136 => ((curve_sub.f t136 x116002_2).bind fun t137 => (some (false, t134, t137))))))))) = some (r1, r2, r3) := by rw [if_pos (show (none : Option Int).isNone = true by rfl)] at H; exact H
            clear H
            have H := H1
            clear H1
            try simp only [errW_none, errW_some]
            replace H := Option.bind_eq_some_iff.mp H
            obtain ⟨t131, A580, H⟩ := H
            (try dsimp only at H)
            have A58 := Aside0.mk A580
            clear A580
            replace H := Option.bind_eq_some_iff.mp H
            obtain ⟨t132, A590, H⟩ := H
            (try dsimp only at H)
            have A59 := Aside0.mk A590
            clear A590
            replace H := Option.bind_eq_some_iff.mp H
            obtain ⟨t133, A600, H⟩ := H
            (try dsimp only at H)
            have A60 := Aside0.mk A600
            clear A600
            replace H := Option.bind_eq_some_iff.mp H
            obtain ⟨t134, A610, H⟩ := H
            (try dsimp only at H)
            have A61 := Aside0.mk A610
            clear A610
            replace H := Option.bind_eq_some_iff.mp H
            obtain ⟨t135, A620, H⟩ := H
            (try dsimp only at H)
            have A62 := Aside0.mk A620
            clear A620
            replace H := Option.bind_eq_some_iff.mp H
            obtain ⟨t136, A630, H⟩ := H
            (try dsimp only at H)
            have A63 := Aside0.mk A630
            clear A630
            replace H := Option.bind_eq_some_iff.mp H
            obtain ⟨t137, A640, H⟩ := H
            (try dsimp only at H)
            have A64 := Aside0.mk A640
            clear A640
            simp only [Option.some.injEq, Prod.mk.injEq] at H
            obtain ⟨rfl, rfl, rfl⟩ := H
            try go_wp2_with (first | ((with_reducible refine gate_callee (f := 49) rfl ?_); refine goesL_ (some 63) rfl rfl Try.func49 (by kernel_rfl) rfl #[.int .u64 1152921505151057923, .int .u64 x6_43] rfl lna_ ?_; (with_reducible refine (modular_Inv.calls 1152921505151057923 x6_43 t128 none _ A57.out).mono ?_); rintro e w' ⟨rfl, ⟨nd, rfl⟩⟩; refine ⟨_, rfl, ?_⟩; (try simp only [errW_none, errW_some]); (repeat rw [World.drewN_drewN]); (try (rw [drewN_self wc]; generalize hq_ : World.drewN wc _ = wc; have n0_ : Aside0 (wc.heap[gb115]? = some (.cells #[.bool x116000_2, .int .u64 x116001_2, .int .u64 x116002_2] 24 (0, 0))) := ⟨by rw [← hq_]; exact blk_⟩; have n1_ : Aside0 (wc.heap[gb116]? = some (.cells #[.bool a1_0, .int .u64 a1_1, .int .u64 a1_2] 24 (0, 0))) := ⟨by rw [← hq_]; exact blk_⟩; have n2_ : Aside0 (wc.heap[gb117]? = some (.cells #[.bool x118000_2, .int .u64 x118001_2, .int .u64 x118002_2] 24 (0, 0))) := ⟨by rw [← hq_]; exact blk_⟩; have n3_ : Aside0 (Below w.heap.size w wc) := ⟨by rw [← hq_]; exact bel_⟩; clear BK115 BK116 BK117 HB hq_; have BK115 := n0_; have BK116 := n1_; have BK117 := n2_; have HB := n3_; clear n0_ n1_ n2_ n3_))) | ((with_reducible refine gate_callee (f := 51) rfl ?_); refine goesL_ (some 71) rfl rfl Try.func51 (by kernel_rfl) rfl #[.int .u64 x5_43, .int .u64 t128] rfl lna_ ?_; (with_reducible refine (curve_mul.calls x5_43 t128 t131 _ A58.out).mono ?_); rintro e w' ⟨rfl, ⟨nd, rfl⟩⟩; refine ⟨_, rfl, ?_⟩; (repeat rw [World.drewN_drewN]); (try (rw [drewN_self wc]; generalize hq_ : World.drewN wc _ = wc; have n0_ : Aside0 (wc.heap[gb115]? = some (.cells #[.bool x116000_2, .int .u64 x116001_2, .int .u64 x116002_2] 24 (0, 0))) := ⟨by rw [← hq_]; exact blk_⟩; have n1_ : Aside0 (wc.heap[gb116]? = some (.cells #[.bool a1_0, .int .u64 a1_1, .int .u64 a1_2] 24 (0, 0))) := ⟨by rw [← hq_]; exact blk_⟩; have n2_ : Aside0 (wc.heap[gb117]? = some (.cells #[.bool x118000_2, .int .u64 x118001_2, .int .u64 x118002_2] 24 (0, 0))) := ⟨by rw [← hq_]; exact blk_⟩; have n3_ : Aside0 (Below w.heap.size w wc) := ⟨by rw [← hq_]; exact bel_⟩; clear BK115 BK116 BK117 HB hq_; have BK115 := n0_; have BK116 := n1_; have BK117 := n2_; have HB := n3_; clear n0_ n1_ n2_ n3_))))
            (repeat rw [World.drewN_drewN])
            (try (rw [drewN_self wc]; generalize hq_ : World.drewN wc _ = wc; have n0_ : Aside0 (wc.heap[gb115]? = some (.cells #[.bool x116000_2, .int .u64 x116001_2, .int .u64 x116002_2] 24 (0, 0))) := ⟨by rw [← hq_]; exact blk_⟩; have n1_ : Aside0 (wc.heap[gb116]? = some (.cells #[.bool a1_0, .int .u64 a1_1, .int .u64 a1_2] 24 (0, 0))) := ⟨by rw [← hq_]; exact blk_⟩; have n2_ : Aside0 (wc.heap[gb117]? = some (.cells #[.bool x118000_2, .int .u64 x118001_2, .int .u64 x118002_2] 24 (0, 0))) := ⟨by rw [← hq_]; exact blk_⟩; have n3_ : Aside0 (Below w.heap.size w wc) := ⟨by rw [← hq_]; exact bel_⟩; clear BK115 BK116 BK117 HB hq_; have BK115 := n0_; have BK116 := n1_; have BK117 := n2_; have HB := n3_; clear n0_ n1_ n2_ n3_))
            have n0_ := Aside0.mk (blk_drew BK115.out)
            have n1_ := Aside0.mk (blk_drew BK116.out)
            have n2_ := Aside0.mk (blk_drew BK117.out)
            have n3_ := Aside0.mk (below_drew1 HB.out)
            clear BK115
            clear BK116
            clear BK117
            clear HB
            have BK115 := n0_
            have BK116 := n1_
            have BK117 := n2_
            have HB := n3_
            clear n0_ n1_ n2_ n3_
            refine start_ (n := 10) (S := fun w' => w'.cell? ⟨gb115, 0, none⟩ = some (.bool x116000_2) ∧ w'.cell? ⟨gb115, 1, none⟩ = some (.int .u64 x116001_2) ∧ w'.cell? ⟨gb115, 2, none⟩ = some (.int .u64 x116002_2) ∧ w'.cell? ⟨gb116, 0, none⟩ = some (.bool a1_0) ∧ w'.cell? ⟨gb116, 1, none⟩ = some (.int .u64 a1_1) ∧ w'.cell? ⟨gb116, 2, none⟩ = some (.int .u64 a1_2)) (ds := []) #[false, false, false, false, false, false, false, false, false, false] (by kernel_rfl) rfl rfl ⟨(blk_cell BK115.out 0).trans rfl, (blk_cell BK115.out 1).trans rfl, (blk_cell BK115.out 2).trans rfl, (blk_cell BK116.out 0).trans rfl, (blk_cell BK116.out 1).trans rfl, (blk_cell BK116.out 2).trans rfl⟩ (fun hHeld => ?_); refine with_tabW curve_sum.tab14 curve_sum.bits14 (fun HT_ HW_ => ?_)
            generalize wc.drew = w65 at BK115 BK116 BK117 HB hHeld ⊢
            refine pure_ (i := 0) (N := some 72) (v := ?_) (a' := ?_) #[true, false, false, false, false, false, false, false, false, false] rfl rfl (any_of HT_.out (by kernel_rfl)) (fun _ _ _ h => h) (Or.inl ⟨by rfl, ?_⟩) ?_ ?_
            rotate_left
            · intro w'
              go_simp
              with_reducible rfl
            rotate_left
            · simp only [Act.put, List.setIfInBounds_toArray, List.set_cons_zero, List.set_cons_succ, i64_w, i32_w]
              rfl
            refine pure_ (i := 1) (N := some 73) (v := ?_) (a' := ?_) #[true, true, false, false, false, false, false, false, false, false] rfl rfl (any_of HT_.out (by kernel_rfl)) (fun _ _ _ h => h) (Or.inl ⟨by rfl, ?_⟩) ?_ ?_
            rotate_left
            · intro w'
              go_simp
              with_reducible rfl
            rotate_left
            · simp only [Act.put, List.setIfInBounds_toArray, List.set_cons_zero, List.set_cons_succ, i64_w, i32_w]
              rfl
            refine pure_ (i := 3) (N := some 75) (v := ?_) (a' := ?_) #[true, true, false, true, false, false, false, false, false, false] rfl rfl (any_of HT_.out (by kernel_rfl)) (fun _ _ _ h => h) (Or.inl ⟨by rfl, ?_⟩) ?_ ?_
            rotate_left
            · intro w'
              go_simp
              with_reducible rfl
            rotate_left
            · simp only [Act.put, List.setIfInBounds_toArray, List.set_cons_zero, List.set_cons_succ, i64_w, i32_w]
              rfl
            refine pure_ (i := 6) (N := some 78) (v := ?_) (a' := ?_) #[true, true, false, true, false, false, true, false, false, false] rfl rfl (any_of HT_.out (by kernel_rfl)) (fun _ _ _ h => h) (Or.inl ⟨by rfl, ?_⟩) ?_ ?_
            rotate_left
            · intro w'
              go_simp
              with_reducible rfl
            rotate_left
            · simp only [Act.put, List.setIfInBounds_toArray, List.set_cons_zero, List.set_cons_succ, i64_w, i32_w]
              rfl
            refine take_ (i := 4) (N := some 76) (v := ?_) (a' := ?_) #[true, true, false, true, true, false, true, false, false, false] rfl rfl (take_ofW HT_.out HW_.out (by kernel_rfl)) (fun _ _ _ h => h) (Or.inl ⟨by rfl, ?_⟩) hHeld ?_ ?_
            rotate_left
            · rintro w' ⟨s0, s1, s2, s3, s4, s5⟩
              go_simp
              with_reducible rfl
            rotate_left
            · simp only [Act.put, List.setIfInBounds_toArray, List.set_cons_zero, List.set_cons_succ, i64_w, i32_w]
              rfl
            refine take_ (i := 7) (N := some 79) (v := ?_) (a' := ?_) #[true, true, false, true, true, false, true, true, false, false] rfl rfl (take_ofW HT_.out HW_.out (by kernel_rfl)) (fun _ _ _ h => h) (Or.inl ⟨by rfl, ?_⟩) hHeld ?_ ?_
            rotate_left
            · rintro w' ⟨s0, s1, s2, s3, s4, s5⟩
              go_simp
              with_reducible rfl
            rotate_left
            · simp only [Act.put, List.setIfInBounds_toArray, List.set_cons_zero, List.set_cons_succ, i64_w, i32_w]
              rfl
            refine one_ (i := 2) (N := some 74) #[true, true, true, true, true, false, true, true, false, false] rfl rfl (one_of HT_.out (by kernel_rfl)) (by decide) (fun K hK => ?_)
            refine goes_ Try.func51 (by kernel_rfl) rfl #[.int .u64 t131, .int .u64 t131] (by rfl) rfl rfl lna_ ?_
            with_reducible refine (curve_mul.calls t131 t131 t132 _ A59.out).mono ?_
            rintro e w' ⟨rfl, ⟨nd, rfl⟩⟩
            refine ⟨_, rfl, ?_⟩
            refine hK.out _ _ ⟨(blk_cell BK115.out 0).trans rfl, (blk_cell BK115.out 1).trans rfl, (blk_cell BK115.out 2).trans rfl, (blk_cell BK116.out 0).trans rfl, (blk_cell BK116.out 1).trans rfl, (blk_cell BK116.out 2).trans rfl⟩ (fun hHeld => ?_)
            clear hK K
            refine norm_ (a' := ?_) ?_ ?_
            rotate_left
            · show Act.put _ (some 74) _ = _
              simp only [Act.put, List.setIfInBounds_toArray, List.set_cons_zero, List.set_cons_succ, i64_w, i32_w]
              rfl
            refine one_ (i := 5) (N := some 77) #[true, true, true, true, true, true, true, true, false, false] rfl rfl (one_of HT_.out (by kernel_rfl)) (by decide) (fun K hK => ?_)
            refine goes_ Try.func41 (by kernel_rfl) rfl #[.int .u64 t132, .int .u64 x116001_2] (by rfl) rfl rfl lna_ ?_
            with_reducible refine (curve_sub.calls t132 x116001_2 t133 _ A60.out).mono ?_
            rintro e w' ⟨rfl, ⟨nd, rfl⟩⟩
            refine ⟨_, rfl, ?_⟩
            refine hK.out _ _ ⟨(blk_cell BK115.out 0).trans rfl, (blk_cell BK115.out 1).trans rfl, (blk_cell BK115.out 2).trans rfl, (blk_cell BK116.out 0).trans rfl, (blk_cell BK116.out 1).trans rfl, (blk_cell BK116.out 2).trans rfl⟩ (fun hHeld => ?_)
            clear hK K
            refine norm_ (a' := ?_) ?_ ?_
            rotate_left
            · show Act.put _ (some 77) _ = _
              simp only [Act.put, List.setIfInBounds_toArray, List.set_cons_zero, List.set_cons_succ, i64_w, i32_w]
              rfl
            refine one_ (i := 8) (N := some 80) #[true, true, true, true, true, true, true, true, true, false] rfl rfl (one_of HT_.out (by kernel_rfl)) (by decide) (fun K hK => ?_)
            refine goes_ Try.func41 (by kernel_rfl) rfl #[.int .u64 t133, .int .u64 a1_1] (by rfl) rfl rfl lna_ ?_
            with_reducible refine (curve_sub.calls t133 a1_1 t134 _ A61.out).mono ?_
            rintro e w' ⟨rfl, ⟨nd, rfl⟩⟩
            refine ⟨_, rfl, ?_⟩
            refine hK.out _ _ ⟨(blk_cell BK115.out 0).trans rfl, (blk_cell BK115.out 1).trans rfl, (blk_cell BK115.out 2).trans rfl, (blk_cell BK116.out 0).trans rfl, (blk_cell BK116.out 1).trans rfl, (blk_cell BK116.out 2).trans rfl⟩ (fun hHeld => ?_)
            clear hK K
            refine norm_ (a' := ?_) ?_ ?_
            rotate_left
            · show Act.put _ (some 80) _ = _
              simp only [Act.put, List.setIfInBounds_toArray, List.set_cons_zero, List.set_cons_succ, i64_w, i32_w]
              rfl
            refine pure_ (i := 9) (N := some 10) (v := ?_) (a' := ?_) #[true, true, true, true, true, true, true, true, true, true] rfl rfl (any_of HT_.out (by kernel_rfl)) (fun _ _ _ h => h) (Or.inl ⟨by rfl, ?_⟩) ?_ ?_
            rotate_left
            · intro w'
              go_simp
              with_reducible rfl
            rotate_left
            · simp only [Act.put, List.setIfInBounds_toArray, List.set_cons_zero, List.set_cons_succ, i64_w, i32_w]
              rfl
            refine done_ (done_of HT_.out (by kernel_rfl)) ?_
            try go_wp2
            (repeat rw [World.drewN_drewN])
            (try (rw [drewN_self w65]; generalize hq_ : World.drewN w65 _ = w65; have n0_ : Aside0 (w65.heap[gb115]? = some (.cells #[.bool x116000_2, .int .u64 x116001_2, .int .u64 x116002_2] 24 (0, 0))) := ⟨by rw [← hq_]; exact blk_⟩; have n1_ : Aside0 (w65.heap[gb116]? = some (.cells #[.bool a1_0, .int .u64 a1_1, .int .u64 a1_2] 24 (0, 0))) := ⟨by rw [← hq_]; exact blk_⟩; have n2_ : Aside0 (w65.heap[gb117]? = some (.cells #[.bool x118000_2, .int .u64 x118001_2, .int .u64 x118002_2] 24 (0, 0))) := ⟨by rw [← hq_]; exact blk_⟩; have n3_ : Aside0 (Below w.heap.size w w65) := ⟨by rw [← hq_]; exact bel_⟩; clear BK115 BK116 BK117 HB hq_; have BK115 := n0_; have BK116 := n1_; have BK117 := n2_; have HB := n3_; clear n0_ n1_ n2_ n3_))
            have n0_ := Aside0.mk (blk_drew BK115.out)
            have n1_ := Aside0.mk (blk_drew BK116.out)
            have n2_ := Aside0.mk (blk_drew BK117.out)
            have n3_ := Aside0.mk (below_drew1 HB.out)
            clear BK115
            clear BK116
            clear BK117
            clear HB
            have BK115 := n0_
            have BK116 := n1_
            have BK117 := n2_
            have HB := n3_
            clear n0_ n1_ n2_ n3_
            refine start_ (n := 12) (S := fun w' => w'.cell? ⟨gb115, 0, none⟩ = some (.bool x116000_2) ∧ w'.cell? ⟨gb115, 1, none⟩ = some (.int .u64 x116001_2) ∧ w'.cell? ⟨gb115, 2, none⟩ = some (.int .u64 x116002_2)) (ds := []) #[false, false, false, false, false, false, false, false, false, false, false, false] (by kernel_rfl) rfl rfl ⟨(blk_cell BK115.out 0).trans rfl, (blk_cell BK115.out 1).trans rfl, (blk_cell BK115.out 2).trans rfl⟩ (fun hHeld => ?_); refine with_tabW curve_sum.tab15 curve_sum.bits15 (fun HT_ HW_ => ?_)
            generalize w65.drew = w66 at BK115 BK116 BK117 HB hHeld ⊢
            refine pure_ (i := 0) (N := some 81) (v := ?_) (a' := ?_) #[true, false, false, false, false, false, false, false, false, false, false, false] rfl rfl (any_of HT_.out (by kernel_rfl)) (fun _ _ _ h => h) (Or.inl ⟨by rfl, ?_⟩) ?_ ?_
            rotate_left
            · intro w'
              go_simp
              with_reducible rfl
            rotate_left
            · simp only [Act.put, List.setIfInBounds_toArray, List.set_cons_zero, List.set_cons_succ, i64_w, i32_w]
              rfl
            refine pure_ (i := 1) (N := some 82) (v := ?_) (a' := ?_) #[true, true, false, false, false, false, false, false, false, false, false, false] rfl rfl (any_of HT_.out (by kernel_rfl)) (fun _ _ _ h => h) (Or.inl ⟨by rfl, ?_⟩) ?_ ?_
            rotate_left
            · intro w'
              go_simp
              with_reducible rfl
            rotate_left
            · simp only [Act.put, List.setIfInBounds_toArray, List.set_cons_zero, List.set_cons_succ, i64_w, i32_w]
              rfl
            refine pure_ (i := 2) (N := some 83) (v := ?_) (a' := ?_) #[true, true, true, false, false, false, false, false, false, false, false, false] rfl rfl (any_of HT_.out (by kernel_rfl)) (fun _ _ _ h => h) (Or.inl ⟨by rfl, ?_⟩) ?_ ?_
            rotate_left
            · intro w'
              go_simp
              with_reducible rfl
            rotate_left
            · simp only [Act.put, List.setIfInBounds_toArray, List.set_cons_zero, List.set_cons_succ, i64_w, i32_w]
              rfl
            refine pure_ (i := 4) (N := some 85) (v := ?_) (a' := ?_) #[true, true, true, false, true, false, false, false, false, false, false, false] rfl rfl (any_of HT_.out (by kernel_rfl)) (fun _ _ _ h => h) (Or.inl ⟨by rfl, ?_⟩) ?_ ?_
            rotate_left
            · intro w'
              go_simp
              with_reducible rfl
            rotate_left
            · simp only [Act.put, List.setIfInBounds_toArray, List.set_cons_zero, List.set_cons_succ, i64_w, i32_w]
              rfl
            refine pure_ (i := 7) (N := some 88) (v := ?_) (a' := ?_) #[true, true, true, false, true, false, false, true, false, false, false, false] rfl rfl (any_of HT_.out (by kernel_rfl)) (fun _ _ _ h => h) (Or.inl ⟨by rfl, ?_⟩) ?_ ?_
            rotate_left
            · intro w'
              go_simp
              with_reducible rfl
            rotate_left
            · simp only [Act.put, List.setIfInBounds_toArray, List.set_cons_zero, List.set_cons_succ, i64_w, i32_w]
              rfl
            refine take_ (i := 3) (N := some 84) (v := ?_) (a' := ?_) #[true, true, true, true, true, false, false, true, false, false, false, false] rfl rfl (take_ofW HT_.out HW_.out (by kernel_rfl)) (fun _ _ _ h => h) (Or.inl ⟨by rfl, ?_⟩) hHeld ?_ ?_
            rotate_left
            · rintro w' ⟨s0, s1, s2⟩
              go_simp
              with_reducible rfl
            rotate_left
            · simp only [Act.put, List.setIfInBounds_toArray, List.set_cons_zero, List.set_cons_succ, i64_w, i32_w]
              rfl
            refine take_ (i := 8) (N := some 89) (v := ?_) (a' := ?_) #[true, true, true, true, true, false, false, true, true, false, false, false] rfl rfl (take_ofW HT_.out HW_.out (by kernel_rfl)) (fun _ _ _ h => h) (Or.inl ⟨by rfl, ?_⟩) hHeld ?_ ?_
            rotate_left
            · rintro w' ⟨s0, s1, s2⟩
              go_simp
              with_reducible rfl
            rotate_left
            · simp only [Act.put, List.setIfInBounds_toArray, List.set_cons_zero, List.set_cons_succ, i64_w, i32_w]
              rfl
            refine one_ (i := 5) (N := some 86) #[true, true, true, true, true, true, false, true, true, false, false, false] rfl rfl (one_of HT_.out (by kernel_rfl)) (by decide) (fun K hK => ?_)
            refine goes_ Try.func41 (by kernel_rfl) rfl #[.int .u64 x116001_2, .int .u64 t134] (by rfl) rfl rfl lna_ ?_
            with_reducible refine (curve_sub.calls x116001_2 t134 t135 _ A62.out).mono ?_
            rintro e w' ⟨rfl, ⟨nd, rfl⟩⟩
            refine ⟨_, rfl, ?_⟩
            refine hK.out _ _ ⟨(blk_cell BK115.out 0).trans rfl, (blk_cell BK115.out 1).trans rfl, (blk_cell BK115.out 2).trans rfl⟩ (fun hHeld => ?_)
            clear hK K
            refine norm_ (a' := ?_) ?_ ?_
            rotate_left
            · show Act.put _ (some 86) _ = _
              simp only [Act.put, List.setIfInBounds_toArray, List.set_cons_zero, List.set_cons_succ, i64_w, i32_w]
              rfl
            refine one_ (i := 6) (N := some 87) #[true, true, true, true, true, true, true, true, true, false, false, false] rfl rfl (one_of HT_.out (by kernel_rfl)) (by decide) (fun K hK => ?_)
            refine goes_ Try.func51 (by kernel_rfl) rfl #[.int .u64 t131, .int .u64 t135] (by rfl) rfl rfl lna_ ?_
            with_reducible refine (curve_mul.calls t131 t135 t136 _ A63.out).mono ?_
            rintro e w' ⟨rfl, ⟨nd, rfl⟩⟩
            refine ⟨_, rfl, ?_⟩
            refine hK.out _ _ ⟨(blk_cell BK115.out 0).trans rfl, (blk_cell BK115.out 1).trans rfl, (blk_cell BK115.out 2).trans rfl⟩ (fun hHeld => ?_)
            clear hK K
            refine norm_ (a' := ?_) ?_ ?_
            rotate_left
            · show Act.put _ (some 87) _ = _
              simp only [Act.put, List.setIfInBounds_toArray, List.set_cons_zero, List.set_cons_succ, i64_w, i32_w]
              rfl
            refine one_ (i := 9) (N := some 90) #[true, true, true, true, true, true, true, true, true, true, false, false] rfl rfl (one_of HT_.out (by kernel_rfl)) (by decide) (fun K hK => ?_)
            refine goes_ Try.func41 (by kernel_rfl) rfl #[.int .u64 t136, .int .u64 x116002_2] (by rfl) rfl rfl lna_ ?_
            with_reducible refine (curve_sub.calls t136 x116002_2 t137 _ A64.out).mono ?_
            rintro e w' ⟨rfl, ⟨nd, rfl⟩⟩
            refine ⟨_, rfl, ?_⟩
            refine hK.out _ _ ⟨(blk_cell BK115.out 0).trans rfl, (blk_cell BK115.out 1).trans rfl, (blk_cell BK115.out 2).trans rfl⟩ (fun hHeld => ?_)
            clear hK K
            refine norm_ (a' := ?_) ?_ ?_
            rotate_left
            · show Act.put _ (some 90) _ = _
              simp only [Act.put, List.setIfInBounds_toArray, List.set_cons_zero, List.set_cons_succ, i64_w, i32_w]
              rfl
            refine pure_ (i := 10) (N := some 91) (v := ?_) (a' := ?_) #[true, true, true, true, true, true, true, true, true, true, true, false] rfl rfl (any_of HT_.out (by kernel_rfl)) (fun _ _ _ h => h) (Or.inl ⟨by rfl, ?_⟩) ?_ ?_
            rotate_left
            · intro w'
              go_simp
              with_reducible rfl
            rotate_left
            · simp only [Act.put, List.setIfInBounds_toArray, List.set_cons_zero, List.set_cons_succ, i64_w, i32_w]
              rfl
            refine one_ (i := 11) (N := none) #[true, true, true, true, true, true, true, true, true, true, true, true] rfl rfl (one_of HT_.out (by kernel_rfl)) (by decide) (fun K hK => ?_)
            have hs67 : w66.cell? ⟨gb117, 0, none⟩ = some (.bool x118000_2) := (blk_cell BK117.out 0).trans rfl
            have hfs67 := blk_frozen BK117.out 0
            have hns67_0 := NB115_117.out
            have hns67_1 := NB116_117.out
            have hms67_0 := NB117_115.out
            have hms67_1 := NB117_116.out
            have hs68 : w66.cell? ⟨gb117, 1, none⟩ = some (.int .u64 x118001_2) := (blk_cell BK117.out 1).trans rfl
            have hfs68 := blk_frozen BK117.out 1
            have hns68_0 := NB115_117.out
            have hns68_1 := NB116_117.out
            have hms68_0 := NB117_115.out
            have hms68_1 := NB117_116.out
            have hs69 : w66.cell? ⟨gb117, 2, none⟩ = some (.int .u64 x118002_2) := (blk_cell BK117.out 2).trans rfl
            have hfs69 := blk_frozen BK117.out 2
            have hns69_0 := NB115_117.out
            have hns69_1 := NB116_117.out
            have hms69_0 := NB117_115.out
            have hms69_1 := NB117_116.out
            refine skip_ (w1 := ?_) (by rfl) rfl ?_ ?_
            rotate_left
            · go_simp
              rfl
            refine hK.out _ _ ⟨((cell_far (p := ⟨gb117, _, none⟩) NB115_117.out _).trans (((cell_far (p := ⟨gb117, _, none⟩) NB115_117.out _).trans (((cell_far (p := ⟨gb117, _, none⟩) NB115_117.out _).trans (hHeld.1)))))), ((cell_far (p := ⟨gb117, _, none⟩) NB115_117.out _).trans (((cell_far (p := ⟨gb117, _, none⟩) NB115_117.out _).trans (((cell_far (p := ⟨gb117, _, none⟩) NB115_117.out _).trans (hHeld.2.1)))))), ((cell_far (p := ⟨gb117, _, none⟩) NB115_117.out _).trans (((cell_far (p := ⟨gb117, _, none⟩) NB115_117.out _).trans (((cell_far (p := ⟨gb117, _, none⟩) NB115_117.out _).trans (hHeld.2.2))))))⟩ (fun hHeld => ?_)
            clear hK K
            refine done_ (done_of HT_.out (by kernel_rfl)) ?_
            try go_wp2
            refine bodyPost_ret (results_cell_row rfl _ _ gb117 24 #[.bool false, .int .u64 t134, .int .u64 t137] (0, 0) _ rfl (by (with_reducible repeat (first | refine blk_drewN ?_ _ | refine blk_drew ?_ | refine blk_alloc ?_ _)); refine blk_put (cs := #[.bool false, .int .u64 t134, .int .u64 x118002_2]) ?_ 2 _ rfl; (with_reducible repeat (first | refine blk_drewN ?_ _ | refine blk_drew ?_ | refine blk_alloc ?_ _)); refine blk_put (cs := #[.bool false, .int .u64 x118001_2, .int .u64 x118002_2]) ?_ 1 _ rfl; (with_reducible repeat (first | refine blk_drewN ?_ _ | refine blk_drew ?_ | refine blk_alloc ?_ _)); refine blk_put (cs := #[.bool x118000_2, .int .u64 x118001_2, .int .u64 x118002_2]) ?_ 0 _ rfl; exact blk_) Try.underlying24 rfl (by kernel_rfl)) rfl ?_
            exact ⟨by first | rfl | (simp [errW_none, errW_some] <;> rfl) | (simp [*, errW_none, errW_some] <;> rfl), bel_⟩
          · have H1 : ((curve_inf.f).bind fun bt138 => (some (bt138.1, bt138.2.1, bt138.2.2))) = some (r1, r2, r3) := by rw [if_neg (show ¬ (some q130).isNone = true by simp)] at H; exact H
            clear H
            have H := H1
            clear H1
            try simp only [errW_none, errW_some]
            replace H := Option.bind_eq_some_iff.mp H
            obtain ⟨⟨t138, t139, t140⟩, A700, H⟩ := H
            (try dsimp only at H)
            have A70 := Aside0.mk A700
            clear A700
            simp only [Option.some.injEq, Prod.mk.injEq] at H
            obtain ⟨rfl, rfl, rfl⟩ := H
            go_wp2_with (first | ((with_reducible refine gate_callee (f := 49) rfl ?_); refine goesL_ (some 63) rfl rfl Try.func49 (by kernel_rfl) rfl #[.int .u64 1152921505151057923, .int .u64 x6_43] rfl lna_ ?_; (with_reducible refine (modular_Inv.calls 1152921505151057923 x6_43 t128 (some q130) _ A57.out).mono ?_); rintro e w' ⟨rfl, ⟨nd, rfl⟩⟩; refine ⟨_, rfl, ?_⟩; (try simp only [errW_none, errW_some]); (repeat rw [World.drewN_drewN]); (try (rw [drewN_self wc]; generalize hq_ : World.drewN wc _ = wc; have n0_ : Aside0 (wc.heap[gb115]? = some (.cells #[.bool x116000_2, .int .u64 x116001_2, .int .u64 x116002_2] 24 (0, 0))) := ⟨by rw [← hq_]; exact blk_⟩; have n1_ : Aside0 (wc.heap[gb116]? = some (.cells #[.bool a1_0, .int .u64 a1_1, .int .u64 a1_2] 24 (0, 0))) := ⟨by rw [← hq_]; exact blk_⟩; have n2_ : Aside0 (wc.heap[gb117]? = some (.cells #[.bool x118000_2, .int .u64 x118001_2, .int .u64 x118002_2] 24 (0, 0))) := ⟨by rw [← hq_]; exact blk_⟩; have n3_ : Aside0 (Below w.heap.size w wc) := ⟨by rw [← hq_]; exact bel_⟩; clear BK115 BK116 BK117 HB hq_; have BK115 := n0_; have BK116 := n1_; have BK117 := n2_; have HB := n3_; clear n0_ n1_ n2_ n3_))) | ((with_reducible refine gate_callee (f := 50) rfl ?_); refine goesL_ (some 68) rfl rfl Try.func50 (by kernel_rfl) rfl #[] rfl lna_ ?_; (with_reducible refine (curve_inf.calls  t138 t139 t140 _ A70.out).mono ?_); rintro e w71 ⟨rfl, hb⟩; refine ⟨_, rfl, ?_⟩; have n0_ := Aside0.mk (blk_below (g := gb115) (o := .cells #[.bool x116000_2, .int .u64 x116001_2, .int .u64 x116002_2] 24 (0, 0)) blk_ hb); have n1_ := Aside0.mk (blk_below (g := gb116) (o := .cells #[.bool a1_0, .int .u64 a1_1, .int .u64 a1_2] 24 (0, 0)) blk_ hb); have n2_ := Aside0.mk (blk_below (g := gb117) (o := .cells #[.bool x118000_2, .int .u64 x118001_2, .int .u64 x118002_2] 24 (0, 0)) blk_ hb); have n3_ := Aside0.mk (below_step bel_ hb); clear BK115; clear BK116; clear BK117; clear HB; have BK115 := n0_; have BK116 := n1_; have BK117 := n2_; have HB := n3_; clear n0_ n1_ n2_ n3_; (try clear hb); (try clear hb2); (try clear hk); (try clear hi); have hnb72 := NB117_115.out; have hnc72 := NB115_117.out; have hnb73 := NB117_116.out; have hnc73 := NB116_117.out; have hcz74_0 : w71.cell? ⟨gb117, 0, none⟩ = some (.bool x118000_2) := (blk_cell BK117.out 0).trans rfl; have hcz74_1 : w71.cell? ⟨gb117, 1, none⟩ = some (.int .u64 x118001_2) := (blk_cell BK117.out 1).trans rfl; have hcz74_2 : w71.cell? ⟨gb117, 2, none⟩ = some (.int .u64 x118002_2) := (blk_cell BK117.out 2).trans rfl; have hfz74_0 := blk_frozen BK117.out 0; have hfz74_1 := blk_frozen BK117.out 1; have hfz74_2 := blk_frozen BK117.out 2))
            refine bodyPost_ret (results_cell_row rfl _ _ gb117 24 #[.bool t138, .int .u64 t139, .int .u64 t140] (0, 0) _ rfl (by (with_reducible repeat (first | refine blk_drewN ?_ _ | refine blk_drew ?_ | refine blk_alloc ?_ _)); refine blk_put (cs := #[.bool t138, .int .u64 t139, .int .u64 x118002_2]) ?_ 2 _ rfl; (with_reducible repeat (first | refine blk_drewN ?_ _ | refine blk_drew ?_ | refine blk_alloc ?_ _)); refine blk_put (cs := #[.bool t138, .int .u64 x118001_2, .int .u64 x118002_2]) ?_ 1 _ rfl; (with_reducible repeat (first | refine blk_drewN ?_ _ | refine blk_drew ?_ | refine blk_alloc ?_ _)); refine blk_put (cs := #[.bool x118000_2, .int .u64 x118001_2, .int .u64 x118002_2]) ?_ 0 _ rfl; exact blk_) Try.underlying24 rfl (by kernel_rfl)) rfl ?_
            exact ⟨by first | rfl | (simp [errW_none, errW_some] <;> rfl) | (simp [*, errW_none, errW_some] <;> rfl), bel_⟩

end Go.Proofs.Ytibmidoepeghpaa.PCur
