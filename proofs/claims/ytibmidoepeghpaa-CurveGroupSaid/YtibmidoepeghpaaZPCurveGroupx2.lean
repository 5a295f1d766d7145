-- written for this claim by a program of this session (an adapted printer)
import Derived.Test.YtibmidoepeghpaaZPCurveGroupx0
import Derived.Test.YtibmidoepeghpaaZPCurveGroupx1
namespace Go.Proofs.Ytibmidoepeghpaa.PCurveGroup
open Go.Proofs.Ytibmidoepeghpaa.G
open Go.Proofs.Ytibmidoepeghpaa.PMod (errW errW_none errW_some)
open Go.RowKit Go.Proofs.YtibmidoepeghpaaW.PrintWords Go.Proofs.YtibmidoepeghpaaW.PrintLast Go.Proofs.YtibmidoepeghpaaW.PrintMore
attribute [local go_sem] max2_int min2_int max_two min_two max_three min_three max_four min_four   -- for this text's walks alone
set_option linter.unusedVariables false
set_option linter.unusedSimpArgs false

attribute [local go_sem high] eqA24
/-! ### obollaw03_CurveGroup: function 5 -/
def obollaw03_CurveGroup.j0 : Nat → Int → Int → Bool → Bool → Bool → Int → Int → Bool → Int → Int → Bool → Int → Int → Bool → Int → Int → Bool → Int → Int → Option (Bool)
  | 0, _, _, _, _, _, _, _, _, _, _, _, _, _, _, _, _, _, _, _ => none
  | k + 1, x3, x4, x11, x35, x102000, x102001, x102002, x103000, x103001, x103002, x112000, x112001, x112002, x119000, x119001, x119002, x126000, x126001, x126002 => if x35 = true then (if x11 = true then (if (x112000 == x119000 && (x112001 == x119001 && (x112002 == x119002))) = true then (some x126000) else (some false)) else (some false)) else ((curve_Mul.f x102000 x102001 x102002 x3).bind fun bt126 => ((curve_Mul.f x102000 x102001 x102002 x4).bind fun bt129 => ((curve_Add.f bt126.1 bt126.2.1 bt126.2.2 bt129.1 bt129.2.1 bt129.2.2).bind fun bt132 => (if x11 = true then (if (x112000 == x119000 && (x112001 == x119001 && (x112002 == x119002))) = true then (if x126000 = true then ((curve_Mul.f x102000 x102001 x102002 (IntKind.u64.wrap (x3 + x4))).bind fun bt136 => (if (bt132.1 == bt136.1 && (bt132.2.1 == bt136.2.1 && (bt132.2.2 == bt136.2.2))) = true then ((curve_Add.f x102000 x102001 x102002 x103000 x103001 x103002).bind fun bt139 => ((curve_Add.f x103000 x103001 x103002 x102000 x102001 x102002).bind fun bt142 => (some (bt139.1 == bt142.1 && (bt139.2.1 == bt142.2.1 && (bt139.2.2 == bt142.2.2)))))) else (some false))) else (some false)) else (some false)) else (some false)))))
def obollaw03_CurveGroup.f (k : Nat) (a0_0 : Bool) (a0_1 : Int) (a0_2 : Int) (a1_0 : Bool) (a1_1 : Int) (a1_2 : Int) (a2_0 : Bool) (a2_1 : Int) (a2_2 : Int) (a3 : Int) (a4 : Int) : Option (Bool) := (obollaw03_up.f).bind fun t104 => ((curve_Add.f a0_0 a0_1 a0_2 a1_0 a1_1 a1_2).bind fun bt105 => ((curve_Add.f bt105.1 bt105.2.1 bt105.2.2 a2_0 a2_1 a2_2).bind fun bt108 => ((curve_Add.f a2_0 a2_1 a2_2 a0_0 a0_1 a0_2).bind fun bt112 => ((curve_Add.f a1_0 a1_1 a1_2 bt112.1 bt112.2.1 bt112.2.2).bind fun bt115 => ((curve_Mul.f a0_0 a0_1 a0_2 288230376287764481).bind fun bt119 => ((curve_Mul.f bt119.1 bt119.2.1 bt119.2.2 4).bind fun bt122 => (if a3 > 4611686018427387904 then (obollaw03_CurveGroup.j0 k a3 a4 t104 true a0_0 a0_1 a0_2 a1_0 a1_1 a1_2 bt108.1 bt108.2.1 bt108.2.2 bt115.1 bt115.2.1 bt115.2.2 bt122.1 bt122.2.1 bt122.2.2) else (obollaw03_CurveGroup.j0 k a3 a4 t104 (decide (a4 > 4611686018427387904)) a0_0 a0_1 a0_2 a1_0 a1_1 a1_2 bt108.1 bt108.2.1 bt108.2.2 bt115.1 bt115.2.1 bt115.2.2 bt122.1 bt122.2.1 bt122.2.2))))))))
def obollaw03_CurveGroup.T7 : Bool × List (List Nat × List Nat) := (true, [([], []), ([], []), ([0, 1], [0, 1]), ([], []), ([], []), ([3, 4, 2], [3, 4]), ([2, 5, 5], [2, 5]), ([], []), ([7, 6, 6, 0, 1, 2, 3, 4, 5, 6, 7], [6, 7])])
def obollaw03_CurveGroup.B7 : List Nat := [0, 0, 3, 0, 0, 31, 63, 0, 255]
theorem obollaw03_CurveGroup.tab7 : rtab .any (opsOf Try.f5 7) = obollaw03_CurveGroup.T7 := by kernel_rfl
theorem obollaw03_CurveGroup.bits7 : waitsOk obollaw03_CurveGroup.T7.2 obollaw03_CurveGroup.B7 = true := by kernel_rfl
def obollaw03_CurveGroup.T8 : Bool × List (List Nat × List Nat) := (true, [([], []), ([0], [0]), ([1], [1]), ([1], [1]), ([2, 3, 1], [1, 2, 3]), ([1, 4], [1, 4]), ([5, 1], [5]), ([6], [6]), ([7, 6], [6, 7]), ([6, 8], [6, 8]), ([9, 6], [9]), ([10], [10]), ([10], [10]), ([10], [10]), ([10], [10]), ([13, 14, 10], [10, 13, 14]), ([12, 15, 10, 10], [10, 12, 15]), ([11, 16, 10], [10, 11, 16]), ([10, 17], [10, 17]), ([18, 16], [18]), ([19], [19]), ([19], [19]), ([20, 21, 19, 19], [19, 20, 21]), ([19], [19]), ([19], [19]), ([23, 24, 22, 19], [19, 23, 24]), ([22, 25, 19], [19, 22, 25]), ([19, 26], [19, 26]), ([27, 25, 0, 1, 2, 3, 4, 5, 6, 7, 8, 9, 10, 11, 12, 13, 14, 15, 16, 17, 18, 19, 20, 21, 22, 23, 24, 25, 26, 27], [27])])
def obollaw03_CurveGroup.B8 : List Nat := [0, 1, 3, 3, 15, 31, 63, 127, 255, 511, 1023, 2047, 2047, 2047, 2047, 26623, 63487, 131071, 262143, 524287, 1048575, 1048575, 4194303, 1048575, 1048575, 33554431, 67108863, 134217727, 268435455]
theorem obollaw03_CurveGroup.tab8 : rtab .any (opsOf Try.f5 8) = obollaw03_CurveGroup.T8 := by kernel_rfl
theorem obollaw03_CurveGroup.bits8 : waitsOk obollaw03_CurveGroup.T8.2 obollaw03_CurveGroup.B8 = true := by kernel_rfl
set_option maxHeartbeats 8000000 in
set_option maxRecDepth 100000 in
theorem obollaw03_CurveGroup.calls (k : Nat) (a0_0 : Bool) (a0_1 : Int) (a0_2 : Int) (a1_0 : Bool) (a1_1 : Int) (a1_2 : Int) (a2_0 : Bool) (a2_1 : Int) (a2_2 : Int) (a3 : Int) (a4 : Int) (r : Bool) (w : World) (h : obollaw03_CurveGroup.f k a0_0 a0_1 a0_2 a1_0 a1_1 a1_2 a2_0 a2_1 a2_2 a3 a4 = some r) (hrt : r = true) :
    Calls Try.prog 5 #[.agg #[.bool a0_0, .int .u64 a0_1, .int .u64 a0_2], .agg #[.bool a1_0, .int .u64 a1_1, .int .u64 a1_2], .agg #[.bool a2_0, .int .u64 a2_1, .int .u64 a2_2], .int .u64 a3, .int .u64 a4] w fun e w' => e = .returned (.bool r) ∧ Below w.heap.size w w' := by
  have hu24 := Try.underlying24
  have HB := Aside0.mk (Below.refl w.heap.size w)
  have HRT := Aside0.mk hrt
  clear hrt
  have H : ((obollaw03_up.f).bind fun t104 => ((curve_Add.f a0_0 a0_1 a0_2 a1_0 a1_1 a1_2).bind fun bt105 => ((curve_Add.f bt105.1 bt105.2.1 bt105.2.2 a2_0 a2_1 a2_2).bind fun bt108 => ((curve_Add.f a2_0 a2_1 a2_2 a0_0 a0_1 a0_2).bind fun bt112 => ((curve_Add.f a1_0 a1_1 a1_2 bt112.1 bt112.2.1 bt112.2.2).bind fun bt115 => ((curve_Mul.f a0_0 a0_1 a0_2 288230376287764481).bind fun bt119 => ((curve_Mul.f bt119.1 bt119.2.1 bt119.2.2 4).bind fun bt122 => (if a3 > 4611686018427387904 then (obollaw03_CurveGroup.j0 k a3 a4 t104 true a0_0 a0_1 a0_2 a1_0 a1_1 a1_2 bt108.1 bt108.2.1 bt108.2.2 bt115.1 bt115.2.1 bt115.2.2 bt122.1 bt122.2.1 bt122.2.2) else (obollaw03_CurveGroup.j0 k a3 a4 t104 (decide (a4 > 4611686018427387904)) a0_0 a0_1 a0_2 a1_0 a1_1 a1_2 bt108.1 bt108.2.1 bt108.2.2 bt115.1 bt115.2.1 bt115.2.2 bt122.1 bt122.2.1 bt122.2.2))))))))) = some r := h
  clear h
  replace H := Option.bind_eq_some_iff.mp H
  obtain ⟨t104, A60, H⟩ := H
  (try dsimp only at H)
  have A6 := Aside0.mk A60
  clear A60
  replace H := Option.bind_eq_some_iff.mp H
  obtain ⟨⟨t105, t106, t107⟩, A70, H⟩ := H
  (try dsimp only at H)
  have A7 := Aside0.mk A70
  clear A70
  replace H := Option.bind_eq_some_iff.mp H
  obtain ⟨⟨t108, t109, t110⟩, A80, H⟩ := H
  (try dsimp only at H)
  have A8 := Aside0.mk A80
  clear A80
  replace H := Option.bind_eq_some_iff.mp H
  obtain ⟨⟨t112, t113, t114⟩, A90, H⟩ := H
  (try dsimp only at H)
  have A9 := Aside0.mk A90
  clear A90
  replace H := Option.bind_eq_some_iff.mp H
  obtain ⟨⟨t115, t116, t117⟩, A100, H⟩ := H
  (try dsimp only at H)
  have A10 := Aside0.mk A100
  clear A100
  replace H := Option.bind_eq_some_iff.mp H
  obtain ⟨⟨t119, t120, t121⟩, A110, H⟩ := H
  (try dsimp only at H)
  have A11 := Aside0.mk A110
  clear A110
  replace H := Option.bind_eq_some_iff.mp H
  obtain ⟨⟨t122, t123, t124⟩, A120, H⟩ := H
  (try dsimp only at H)
  have A12 := Aside0.mk A120
  clear A120
  have HC13 := Aside0.mk H
  clear H
  go_enter Try.func5, Try.ntmps5
  try go_wp2_with (first | ((with_reducible refine gate_dst (N := 5) rfl ?_); refine box_event ?hg (N := 5) ?hd (cs := #[.bool a0_0, .int .u64 a0_1, .int .u64 a0_2]) (t := 24) ?hr ?_; (case hd => rfl); (case hg => rfl); (case hr => first | (go_simp; done) | (go_simp; rfl)); intro gb101 hg w14 hbox hb; have n0_ := Aside0.mk (below_step bel_ hb); have n1_ := Aside0.mk (hbox); have n2_ := Aside0.mk ((by rw [hg]; exact (below_size bel_) : w.heap.size ≤ gb101)); have n3_ := Aside0.mk ((by rw [hg]; exact (below_size bel_) : w.heap.size ≤ gb101)); clear HB; have HB := n0_; have BK101 := n1_; have GW101 := n2_; have GE101 := n3_; clear n0_ n1_ n2_ n3_; clear hb hbox hg) | ((with_reducible refine gate_dst (N := 6) rfl ?_); refine box_event ?hg (N := 6) ?hd (cs := #[.bool a1_0, .int .u64 a1_1, .int .u64 a1_2]) (t := 24) ?hr ?_; (case hd => rfl); (case hg => rfl); (case hr => first | (go_simp; done) | (go_simp; rfl)); intro gb102 hg w15 hbox hb; have n0_ := Aside0.mk (blk_below (g := gb101) (o := .cells #[.bool a0_0, .int .u64 a0_1, .int .u64 a0_2] 24 (0, 0)) blk_ hb); have n1_ := Aside0.mk (below_step bel_ hb); have n2_ := Aside0.mk (hbox); have n3_ := Aside0.mk ((by rw [hg]; exact (below_size bel_) : w.heap.size ≤ gb102)); have n4_ := Aside0.mk ((by rw [hg]; exact (below_size bel_) : w.heap.size ≤ gb102)); have n5_ := Aside0.mk ((by rw [hg]; exact Nat.ne_of_lt (blk_lt (g := gb101) (o := .cells #[.bool a0_0, .int .u64 a0_1, .int .u64 a0_2] 24 (0, 0)) blk_) : gb101 ≠ gb102)); have n6_ := Aside0.mk ((by rw [hg]; exact Nat.ne_of_gt (blk_lt (g := gb101) (o := .cells #[.bool a0_0, .int .u64 a0_1, .int .u64 a0_2] 24 (0, 0)) blk_) : gb102 ≠ gb101)); clear BK101; clear HB; have BK101 := n0_; have HB := n1_; have BK102 := n2_; have GW102 := n3_; have GE102 := n4_; have NB101_102 := n5_; have NB102_101 := n6_; clear n0_ n1_ n2_ n3_ n4_ n5_ n6_; clear hb hbox hg) | ((with_reducible refine gate_dst (N := 7) rfl ?_); refine box_event ?hg (N := 7) ?hd (cs := #[.bool a2_0, .int .u64 a2_1, .int .u64 a2_2]) (t := 24) ?hr ?_; (case hd => rfl); (case hg => rfl); (case hr => first | (go_simp; done) | (go_simp; rfl)); intro gb103 hg w16 hbox hb; have n0_ := Aside0.mk (blk_below (g := gb101) (o := .cells #[.bool a0_0, .int .u64 a0_1, .int .u64 a0_2] 24 (0, 0)) blk_ hb); have n1_ := Aside0.mk (blk_below (g := gb102) (o := .cells #[.bool a1_0, .int .u64 a1_1, .int .u64 a1_2] 24 (0, 0)) blk_ hb); have n2_ := Aside0.mk (below_step bel_ hb); have n3_ := Aside0.mk (hbox); have n4_ := Aside0.mk ((by rw [hg]; exact (below_size bel_) : w.heap.size ≤ gb103)); have n5_ := Aside0.mk ((by rw [hg]; exact (below_size bel_) : w.heap.size ≤ gb103)); have n6_ := Aside0.mk ((by rw [hg]; exact Nat.ne_of_lt (blk_lt (g := gb101) (o := .cells #[.bool a0_0, .int .u64 a0_1, .int .u64 a0_2] 24 (0, 0)) blk_) : gb101 ≠ gb103)); have n7_ := Aside0.mk ((by rw [hg]; exact Nat.ne_of_gt (blk_lt (g := gb101) (o := .cells #[.bool a0_0, .int .u64 a0_1, .int .u64 a0_2] 24 (0, 0)) blk_) : gb103 ≠ gb101)); have n8_ := Aside0.mk ((by rw [hg]; exact Nat.ne_of_lt (blk_lt (g := gb102) (o := .cells #[.bool a1_0, .int .u64 a1_1, .int .u64 a1_2] 24 (0, 0)) blk_) : gb102 ≠ gb103)); have n9_ := Aside0.mk ((by rw [hg]; exact Nat.ne_of_gt (blk_lt (g := gb102) (o := .cells #[.bool a1_0, .int .u64 a1_1, .int .u64 a1_2] 24 (0, 0)) blk_) : gb103 ≠ gb102)); clear BK101; clear BK102; clear HB; have BK101 := n0_; have BK102 := n1_; have HB := n2_; have BK103 := n3_; have GW103 := n4_; have GE103 := n5_; have NB101_103 := n6_; have NB103_101 := n7_; have NB102_103 := n8_; have NB103_102 := n9_; clear n0_ n1_ n2_ n3_ n4_ n5_ n6_ n7_ n8_ n9_; clear hb hbox hg) | ((with_reducible refine gate_callee (f := 14) rfl ?_); refine goesL_ (some 16) rfl rfl Try.func14 (by kernel_rfl) rfl #[] rfl lna_ ?_; (with_reducible refine (obollaw03_up.calls  t104 _ A6.out).mono ?_); rintro e w17 ⟨rfl, hb⟩; refine ⟨_, rfl, ?_⟩; have n0_ := Aside0.mk (blk_below (g := gb101) (o := .cells #[.bool a0_0, .int .u64 a0_1, .int .u64 a0_2] 24 (0, 0)) blk_ hb); have n1_ := Aside0.mk (blk_below (g := gb102) (o := .cells #[.bool a1_0, .int .u64 a1_1, .int .u64 a1_2] 24 (0, 0)) blk_ hb); have n2_ := Aside0.mk (blk_below (g := gb103) (o := .cells #[.bool a2_0, .int .u64 a2_1, .int .u64 a2_2] 24 (0, 0)) blk_ hb); have n3_ := Aside0.mk (below_step bel_ hb); clear BK101; clear BK102; clear BK103; clear HB; have BK101 := n0_; have BK102 := n1_; have BK103 := n2_; have HB := n3_; clear n0_ n1_ n2_ n3_; (try clear hb); (try clear hb2); (try clear hk); (try clear hi)))
  (repeat rw [World.drewN_drewN])
  (try (rw [drewN_self w17]; generalize hq_ : World.drewN w17 _ = w17; have n0_ : Aside0 (w17.heap[gb101]? = some (.cells #[.bool a0_0, .int .u64 a0_1, .int .u64 a0_2] 24 (0, 0))) := ⟨by rw [← hq_]; exact blk_⟩; have n1_ : Aside0 (w17.heap[gb102]? = some (.cells #[.bool a1_0, .int .u64 a1_1, .int .u64 a1_2] 24 (0, 0))) := ⟨by rw [← hq_]; exact blk_⟩; have n2_ : Aside0 (w17.heap[gb103]? = some (.cells #[.bool a2_0, .int .u64 a2_1, .int .u64 a2_2] 24 (0, 0))) := ⟨by rw [← hq_]; exact blk_⟩; have n3_ : Aside0 (Below w.heap.size w w17) := ⟨by rw [← hq_]; exact bel_⟩; clear BK101 BK102 BK103 HB hq_; have BK101 := n0_; have BK102 := n1_; have BK103 := n2_; have HB := n3_; clear n0_ n1_ n2_ n3_))
  have n0_ := Aside0.mk (blk_drew BK101.out)
  have n1_ := Aside0.mk (blk_drew BK102.out)
  have n2_ := Aside0.mk (blk_drew BK103.out)
  have n3_ := Aside0.mk (below_drew1 HB.out)
  clear BK101
  clear BK102
  clear BK103
  clear HB
  have BK101 := n0_
  have BK102 := n1_
  have BK103 := n2_
  have HB := n3_
  clear n0_ n1_ n2_ n3_
  refine start_ (n := 7) (S := fun w' => w'.cell? ⟨gb101, 0, none⟩ = some (.bool a0_0) ∧ w'.cell? ⟨gb101, 1, none⟩ = some (.int .u64 a0_1) ∧ w'.cell? ⟨gb101, 2, none⟩ = some (.int .u64 a0_2) ∧ w'.cell? ⟨gb102, 0, none⟩ = some (.bool a1_0) ∧ w'.cell? ⟨gb102, 1, none⟩ = some (.int .u64 a1_1) ∧ w'.cell? ⟨gb102, 2, none⟩ = some (.int .u64 a1_2) ∧ w'.cell? ⟨gb103, 0, none⟩ = some (.bool a2_0) ∧ w'.cell? ⟨gb103, 1, none⟩ = some (.int .u64 a2_1) ∧ w'.cell? ⟨gb103, 2, none⟩ = some (.int .u64 a2_2)) (ds := []) #[false, false, false, false, false, false, false] (by kernel_rfl) rfl rfl ⟨(blk_cell BK101.out 0).trans rfl, (blk_cell BK101.out 1).trans rfl, (blk_cell BK101.out 2).trans rfl, (blk_cell BK102.out 0).trans rfl, (blk_cell BK102.out 1).trans rfl, (blk_cell BK102.out 2).trans rfl, (blk_cell BK103.out 0).trans rfl, (blk_cell BK103.out 1).trans rfl, (blk_cell BK103.out 2).trans rfl⟩ (fun hHeld => ?_)
  generalize w17.drew = w18 at BK101 BK102 BK103 HB hHeld ⊢
  refine take_ (i := 0) (N := some 17) (v := ?_) (a' := ?_) #[true, false, false, false, false, false, false] rfl rfl (by kernel_rfl) (fun _ _ _ h => h) (Or.inl ⟨by rfl, ?_⟩) hHeld ?_ ?_
  rotate_left
  · rintro w' ⟨s0, s1, s2, s3, s4, s5, s6, s7, s8⟩
    go_simp
    with_reducible rfl
  rotate_left
  · simp only [Act.put, List.setIfInBounds_toArray, List.set_cons_zero, List.set_cons_succ, i64_w, i32_w]
    rfl
  refine take_ (i := 1) (N := some 18) (v := ?_) (a' := ?_) #[true, true, false, false, false, false, false] rfl rfl (by kernel_rfl) (fun _ _ _ h => h) (Or.inl ⟨by rfl, ?_⟩) hHeld ?_ ?_
  rotate_left
  · rintro w' ⟨s0, s1, s2, s3, s4, s5, s6, s7, s8⟩
    go_simp
    with_reducible rfl
  rotate_left
  · simp only [Act.put, List.setIfInBounds_toArray, List.set_cons_zero, List.set_cons_succ, i64_w, i32_w]
    rfl
  refine take_ (i := 3) (N := some 20) (v := ?_) (a' := ?_) #[true, true, false, true, false, false, false] rfl rfl (by kernel_rfl) (fun _ _ _ h => h) (Or.inl ⟨by rfl, ?_⟩) hHeld ?_ ?_
  rotate_left
  · rintro w' ⟨s0, s1, s2, s3, s4, s5, s6, s7, s8⟩
    go_simp
    with_reducible rfl
  rotate_left
  · simp only [Act.put, List.setIfInBounds_toArray, List.set_cons_zero, List.set_cons_succ, i64_w, i32_w]
    rfl
  refine join_ (σ := Nat) 1 #[true, true, true, true, true, true, false] (fun s_ => [(19, .agg #[.bool t105, .int .u64 t106, .int .u64 t107]), (21, .agg #[.bool t108, .int .u64 t109, .int .u64 t110]), (12, .pointer (some ⟨s_, 0, none⟩))]) (fun s_ w' => (w'.cell? ⟨gb101, 0, none⟩ = some (.bool a0_0) ∧ w'.cell? ⟨gb101, 1, none⟩ = some (.int .u64 a0_1) ∧ w'.cell? ⟨gb101, 2, none⟩ = some (.int .u64 a0_2) ∧ w'.cell? ⟨gb102, 0, none⟩ = some (.bool a1_0) ∧ w'.cell? ⟨gb102, 1, none⟩ = some (.int .u64 a1_1) ∧ w'.cell? ⟨gb102, 2, none⟩ = some (.int .u64 a1_2) ∧ w'.cell? ⟨gb103, 0, none⟩ = some (.bool a2_0) ∧ w'.cell? ⟨gb103, 1, none⟩ = some (.int .u64 a2_1) ∧ w'.cell? ⟨gb103, 2, none⟩ = some (.int .u64 a2_2)) ∧ (w'.heap[gb101]? = some (.cells #[.bool a0_0, .int .u64 a0_1, .int .u64 a0_2] 24 (0, 0))) ∧ (w'.heap[gb102]? = some (.cells #[.bool a1_0, .int .u64 a1_1, .int .u64 a1_2] 24 (0, 0))) ∧ (w'.heap[gb103]? = some (.cells #[.bool a2_0, .int .u64 a2_1, .int .u64 a2_2] 24 (0, 0))) ∧ (w'.heap[s_]? = some (.cells #[.bool false, .int .u64 0, .int .u64 0] 24 (0, 0))) ∧ (w.heap.size ≤ s_) ∧ (w.heap.size ≤ s_) ∧ (gb101 ≠ s_) ∧ (s_ ≠ gb101) ∧ (gb102 ≠ s_) ∧ (s_ ≠ gb102) ∧ (gb103 ≠ s_) ∧ (s_ ≠ gb103) ∧ (Below w.heap.size w w')) ?_ ?_
  rotate_left
  · intro hCont
    refine two_ (i := 2) (j := 5) (Ni := some 19) (Nj := some 12) #[true, true, true, true, false, false, false] #[true, true, false, true, false, true, false] rfl rfl rfl rfl (by kernel_rfl) (by decide) (by decide) (fun K hK => ?_) (fun K hK => ?_)
    · skip
      refine goes_ Try.func17 (by kernel_rfl) rfl #[.agg #[.bool a0_0, .int .u64 a0_1, .int .u64 a0_2], .agg #[.bool a1_0, .int .u64 a1_1, .int .u64 a1_2]] (by rfl) rfl rfl lna_ ?_
      with_reducible refine (curve_Add.calls a0_0 a0_1 a0_2 a1_0 a1_1 a1_2 t105 t106 t107 _ A7.out).mono ?_
      rintro e w19 ⟨rfl, hb⟩
      refine ⟨_, rfl, ?_⟩
      have n0_ := Aside0.mk (blk_below (g := gb101) (o := .cells #[.bool a0_0, .int .u64 a0_1, .int .u64 a0_2] 24 (0, 0)) blk_ hb)
      have n1_ := Aside0.mk (blk_below (g := gb102) (o := .cells #[.bool a1_0, .int .u64 a1_1, .int .u64 a1_2] 24 (0, 0)) blk_ hb)
      have n2_ := Aside0.mk (blk_below (g := gb103) (o := .cells #[.bool a2_0, .int .u64 a2_1, .int .u64 a2_2] 24 (0, 0)) blk_ hb)
      have n3_ := Aside0.mk (below_step bel_ hb)
      clear BK101
      clear BK102
      clear BK103
      clear HB
      have BK101 := n0_
      have BK102 := n1_
      have BK103 := n2_
      have HB := n3_
      clear n0_ n1_ n2_ n3_
      (try clear hb)
      (try clear hb2)
      (try clear hk)
      (try clear hi)
      refine hK.out _ _ ⟨(blk_cell BK101.out 0).trans rfl, (blk_cell BK101.out 1).trans rfl, (blk_cell BK101.out 2).trans rfl, (blk_cell BK102.out 0).trans rfl, (blk_cell BK102.out 1).trans rfl, (blk_cell BK102.out 2).trans rfl, (blk_cell BK103.out 0).trans rfl, (blk_cell BK103.out 1).trans rfl, (blk_cell BK103.out 2).trans rfl⟩ (fun hHeld => ?_)
      clear hK K
      refine norm_ (a' := ?_) ?_ ?_
      rotate_left
      · show Act.put _ (some 19) _ = _
        simp only [Act.put, List.setIfInBounds_toArray, List.set_cons_zero, List.set_cons_succ, i64_w, i32_w]
        rfl
      refine two_ (i := 4) (j := 5) (Ni := some 21) (Nj := some 12) #[true, true, true, true, true, false, false] #[true, true, true, true, false, true, false] rfl rfl rfl rfl (by kernel_rfl) (by decide) (by decide) (fun K hK => ?_) (fun K hK => ?_)
      · skip
        refine goes_ Try.func17 (by kernel_rfl) rfl #[.agg #[.bool t105, .int .u64 t106, .int .u64 t107], .agg #[.bool a2_0, .int .u64 a2_1, .int .u64 a2_2]] (by rfl) rfl rfl lna_ ?_
        with_reducible refine (curve_Add.calls t105 t106 t107 a2_0 a2_1 a2_2 t108 t109 t110 _ A8.out).mono ?_
        rintro e w20 ⟨rfl, hb⟩
        refine ⟨_, rfl, ?_⟩
        have n0_ := Aside0.mk (blk_below (g := gb101) (o := .cells #[.bool a0_0, .int .u64 a0_1, .int .u64 a0_2] 24 (0, 0)) blk_ hb)
        have n1_ := Aside0.mk (blk_below (g := gb102) (o := .cells #[.bool a1_0, .int .u64 a1_1, .int .u64 a1_2] 24 (0, 0)) blk_ hb)
        have n2_ := Aside0.mk (blk_below (g := gb103) (o := .cells #[.bool a2_0, .int .u64 a2_1, .int .u64 a2_2] 24 (0, 0)) blk_ hb)
        have n3_ := Aside0.mk (below_step bel_ hb)
        clear BK101
        clear BK102
        clear BK103
        clear HB
        have BK101 := n0_
        have BK102 := n1_
        have BK103 := n2_
        have HB := n3_
        clear n0_ n1_ n2_ n3_
        (try clear hb)
        (try clear hb2)
        (try clear hk)
        (try clear hi)
        refine hK.out _ _ ⟨(blk_cell BK101.out 0).trans rfl, (blk_cell BK101.out 1).trans rfl, (blk_cell BK101.out 2).trans rfl, (blk_cell BK102.out 0).trans rfl, (blk_cell BK102.out 1).trans rfl, (blk_cell BK102.out 2).trans rfl, (blk_cell BK103.out 0).trans rfl, (blk_cell BK103.out 1).trans rfl, (blk_cell BK103.out 2).trans rfl⟩ (fun hHeld => ?_)
        clear hK K
        refine norm_ (a' := ?_) ?_ ?_
        rotate_left
        · show Act.put _ (some 21) _ = _
          simp only [Act.put, List.setIfInBounds_toArray, List.set_cons_zero, List.set_cons_succ, i64_w, i32_w]
          rfl
        refine one_ (i := 5) (N := some 12) #[true, true, true, true, true, true, false] rfl rfl (by kernel_rfl) (by decide) (fun K hK => ?_)
        refine box_step ?hg (N := 12) ?hd (cs := #[.bool false, .int .u64 0, .int .u64 0]) (t := 24) ?hr ?_; (case hd => rfl); (case hg => rfl); (case hr => first | (go_simp; done) | (go_simp; rfl))
        intro gb111 hg w21 hbox hb
        have n0_ := Aside0.mk (blk_below (g := gb101) (o := .cells #[.bool a0_0, .int .u64 a0_1, .int .u64 a0_2] 24 (0, 0)) blk_ hb)
        have n1_ := Aside0.mk (blk_below (g := gb102) (o := .cells #[.bool a1_0, .int .u64 a1_1, .int .u64 a1_2] 24 (0, 0)) blk_ hb)
        have n2_ := Aside0.mk (blk_below (g := gb103) (o := .cells #[.bool a2_0, .int .u64 a2_1, .int .u64 a2_2] 24 (0, 0)) blk_ hb)
        have n3_ := Aside0.mk (below_step bel_ hb)
        have n4_ := Aside0.mk (hbox)
        have n5_ := Aside0.mk ((by rw [hg]; exact (below_size bel_) : w.heap.size ≤ gb111))
        have n6_ := Aside0.mk ((by rw [hg]; exact (below_size bel_) : w.heap.size ≤ gb111))
        have n7_ := Aside0.mk ((by rw [hg]; exact Nat.ne_of_lt (blk_lt (g := gb101) (o := .cells #[.bool a0_0, .int .u64 a0_1, .int .u64 a0_2] 24 (0, 0)) blk_) : gb101 ≠ gb111))
        have n8_ := Aside0.mk ((by rw [hg]; exact Nat.ne_of_gt (blk_lt (g := gb101) (o := .cells #[.bool a0_0, .int .u64 a0_1, .int .u64 a0_2] 24 (0, 0)) blk_) : gb111 ≠ gb101))
        have n9_ := Aside0.mk ((by rw [hg]; exact Nat.ne_of_lt (blk_lt (g := gb102) (o := .cells #[.bool a1_0, .int .u64 a1_1, .int .u64 a1_2] 24 (0, 0)) blk_) : gb102 ≠ gb111))
        have n10_ := Aside0.mk ((by rw [hg]; exact Nat.ne_of_gt (blk_lt (g := gb102) (o := .cells #[.bool a1_0, .int .u64 a1_1, .int .u64 a1_2] 24 (0, 0)) blk_) : gb111 ≠ gb102))
        have n11_ := Aside0.mk ((by rw [hg]; exact Nat.ne_of_lt (blk_lt (g := gb103) (o := .cells #[.bool a2_0, .int .u64 a2_1, .int .u64 a2_2] 24 (0, 0)) blk_) : gb103 ≠ gb111))
        have n12_ := Aside0.mk ((by rw [hg]; exact Nat.ne_of_gt (blk_lt (g := gb103) (o := .cells #[.bool a2_0, .int .u64 a2_1, .int .u64 a2_2] 24 (0, 0)) blk_) : gb111 ≠ gb103))
        clear BK101
        clear BK102
        clear BK103
        clear HB
        have BK101 := n0_
        have BK102 := n1_
        have BK103 := n2_
        have HB := n3_
        have BK111 := n4_
        have GW111 := n5_
        have GE111 := n6_
        have NB101_111 := n7_
        have NB111_101 := n8_
        have NB102_111 := n9_
        have NB111_102 := n10_
        have NB103_111 := n11_
        have NB111_103 := n12_
        clear n0_ n1_ n2_ n3_ n4_ n5_ n6_ n7_ n8_ n9_ n10_ n11_ n12_
        clear hb hbox hg
        refine hK.out _ _ ⟨(blk_cell BK101.out 0).trans rfl, (blk_cell BK101.out 1).trans rfl, (blk_cell BK101.out 2).trans rfl, (blk_cell BK102.out 0).trans rfl, (blk_cell BK102.out 1).trans rfl, (blk_cell BK102.out 2).trans rfl, (blk_cell BK103.out 0).trans rfl, (blk_cell BK103.out 1).trans rfl, (blk_cell BK103.out 2).trans rfl⟩ (fun hHeld => ?_)
        clear hK K
        refine norm_ (a' := ?_) ?_ ?_
        rotate_left
        · show Act.put _ (some 12) _ = _
          simp only [Act.put, List.setIfInBounds_toArray, List.set_cons_zero, List.set_cons_succ, i64_w, i32_w]
          rfl
        exact norm_ (by simp only [putAll, Act.put, List.setIfInBounds_toArray, List.set_cons_zero, List.set_cons_succ]) (hCont (gb111) _ ⟨hHeld, blk_, blk_, blk_, blk_, GW111.out, GE111.out, NB101_111.out, NB111_101.out, NB102_111.out, NB111_102.out, NB103_111.out, NB111_103.out, bel_⟩)
      · skip
        refine box_step ?hg (N := 12) ?hd (cs := #[.bool false, .int .u64 0, .int .u64 0]) (t := 24) ?hr ?_; (case hd => rfl); (case hg => rfl); (case hr => first | (go_simp; done) | (go_simp; rfl))
        intro gb111 hg w20 hbox hb
        have n0_ := Aside0.mk (blk_below (g := gb101) (o := .cells #[.bool a0_0, .int .u64 a0_1, .int .u64 a0_2] 24 (0, 0)) blk_ hb)
        have n1_ := Aside0.mk (blk_below (g := gb102) (o := .cells #[.bool a1_0, .int .u64 a1_1, .int .u64 a1_2] 24 (0, 0)) blk_ hb)
        have n2_ := Aside0.mk (blk_below (g := gb103) (o := .cells #[.bool a2_0, .int .u64 a2_1, .int .u64 a2_2] 24 (0, 0)) blk_ hb)
        have n3_ := Aside0.mk (below_step bel_ hb)
        have n4_ := Aside0.mk (hbox)
        have n5_ := Aside0.mk ((by rw [hg]; exact (below_size bel_) : w.heap.size ≤ gb111))
        have n6_ := Aside0.mk ((by rw [hg]; exact (below_size bel_) : w.heap.size ≤ gb111))
        have n7_ := Aside0.mk ((by rw [hg]; exact Nat.ne_of_lt (blk_lt (g := gb101) (o := .cells #[.bool a0_0, .int .u64 a0_1, .int .u64 a0_2] 24 (0, 0)) blk_) : gb101 ≠ gb111))
        have n8_ := Aside0.mk ((by rw [hg]; exact Nat.ne_of_gt (blk_lt (g := gb101) (o := .cells #[.bool a0_0, .int .u64 a0_1, .int .u64 a0_2] 24 (0, 0)) blk_) : gb111 ≠ gb101))
        have n9_ := Aside0.mk ((by rw [hg]; exact Nat.ne_of_lt (blk_lt (g := gb102) (o := .cells #[.bool a1_0, .int .u64 a1_1, .int .u64 a1_2] 24 (0, 0)) blk_) : gb102 ≠ gb111))
        have n10_ := Aside0.mk ((by rw [hg]; exact Nat.ne_of_gt (blk_lt (g := gb102) (o := .cells #[.bool a1_0, .int .u64 a1_1, .int .u64 a1_2] 24 (0, 0)) blk_) : gb111 ≠ gb102))
        have n11_ := Aside0.mk ((by rw [hg]; exact Nat.ne_of_lt (blk_lt (g := gb103) (o := .cells #[.bool a2_0, .int .u64 a2_1, .int .u64 a2_2] 24 (0, 0)) blk_) : gb103 ≠ gb111))
        have n12_ := Aside0.mk ((by rw [hg]; exact Nat.ne_of_gt (blk_lt (g := gb103) (o := .cells #[.bool a2_0, .int .u64 a2_1, .int .u64 a2_2] 24 (0, 0)) blk_) : gb111 ≠ gb103))
        clear BK101
        clear BK102
        clear BK103
        clear HB
        have BK101 := n0_
        have BK102 := n1_
        have BK103 := n2_
        have HB := n3_
        have BK111 := n4_
        have GW111 := n5_
        have GE111 := n6_
        have NB101_111 := n7_
        have NB111_101 := n8_
        have NB102_111 := n9_
        have NB111_102 := n10_
        have NB103_111 := n11_
        have NB111_103 := n12_
        clear n0_ n1_ n2_ n3_ n4_ n5_ n6_ n7_ n8_ n9_ n10_ n11_ n12_
        clear hb hbox hg
        refine hK.out _ _ ⟨(blk_cell BK101.out 0).trans rfl, (blk_cell BK101.out 1).trans rfl, (blk_cell BK101.out 2).trans rfl, (blk_cell BK102.out 0).trans rfl, (blk_cell BK102.out 1).trans rfl, (blk_cell BK102.out 2).trans rfl, (blk_cell BK103.out 0).trans rfl, (blk_cell BK103.out 1).trans rfl, (blk_cell BK103.out 2).trans rfl⟩ (fun hHeld => ?_)
        clear hK K
        refine norm_ (a' := ?_) ?_ ?_
        rotate_left
        · show Act.put _ (some 12) _ = _
          simp only [Act.put, List.setIfInBounds_toArray, List.set_cons_zero, List.set_cons_succ, i64_w, i32_w]
          rfl
        refine one_ (i := 4) (N := some 21) #[true, true, true, true, true, true, false] rfl rfl (by kernel_rfl) (by decide) (fun K hK => ?_)
        refine goes_ Try.func17 (by kernel_rfl) rfl #[.agg #[.bool t105, .int .u64 t106, .int .u64 t107], .agg #[.bool a2_0, .int .u64 a2_1, .int .u64 a2_2]] (by rfl) rfl rfl lna_ ?_
        with_reducible refine (curve_Add.calls t105 t106 t107 a2_0 a2_1 a2_2 t108 t109 t110 _ A8.out).mono ?_
        rintro e w21 ⟨rfl, hb⟩
        refine ⟨_, rfl, ?_⟩
        have n0_ := Aside0.mk (blk_below (g := gb101) (o := .cells #[.bool a0_0, .int .u64 a0_1, .int .u64 a0_2] 24 (0, 0)) blk_ hb)
        have n1_ := Aside0.mk (blk_below (g := gb102) (o := .cells #[.bool a1_0, .int .u64 a1_1, .int .u64 a1_2] 24 (0, 0)) blk_ hb)
        have n2_ := Aside0.mk (blk_below (g := gb103) (o := .cells #[.bool a2_0, .int .u64 a2_1, .int .u64 a2_2] 24 (0, 0)) blk_ hb)
        have n3_ := Aside0.mk (blk_below (g := gb111) (o := .cells #[.bool false, .int .u64 0, .int .u64 0] 24 (0, 0)) blk_ hb)
        have n4_ := Aside0.mk (below_step bel_ hb)
        clear BK101
        clear BK102
        clear BK103
        clear BK111
        clear HB
        have BK101 := n0_
        have BK102 := n1_
        have BK103 := n2_
        have BK111 := n3_
        have HB := n4_
        clear n0_ n1_ n2_ n3_ n4_
        (try clear hb)
        (try clear hb2)
        (try clear hk)
        (try clear hi)
        refine hK.out _ _ ⟨(blk_cell BK101.out 0).trans rfl, (blk_cell BK101.out 1).trans rfl, (blk_cell BK101.out 2).trans rfl, (blk_cell BK102.out 0).trans rfl, (blk_cell BK102.out 1).trans rfl, (blk_cell BK102.out 2).trans rfl, (blk_cell BK103.out 0).trans rfl, (blk_cell BK103.out 1).trans rfl, (blk_cell BK103.out 2).trans rfl⟩ (fun hHeld => ?_)
        clear hK K
        refine norm_ (a' := ?_) ?_ ?_
        rotate_left
        · show Act.put _ (some 21) _ = _
          simp only [Act.put, List.setIfInBounds_toArray, List.set_cons_zero, List.set_cons_succ, i64_w, i32_w]
          rfl
        exact norm_ (by simp only [putAll, Act.put, List.setIfInBounds_toArray, List.set_cons_zero, List.set_cons_succ]) (hCont (gb111) _ ⟨hHeld, blk_, blk_, blk_, blk_, GW111.out, GE111.out, NB101_111.out, NB111_101.out, NB102_111.out, NB111_102.out, NB103_111.out, NB111_103.out, bel_⟩)
    · skip
      refine box_step ?hg (N := 12) ?hd (cs := #[.bool false, .int .u64 0, .int .u64 0]) (t := 24) ?hr ?_; (case hd => rfl); (case hg => rfl); (case hr => first | (go_simp; done) | (go_simp; rfl))
      intro gb111 hg w19 hbox hb
      have n0_ := Aside0.mk (blk_below (g := gb101) (o := .cells #[.bool a0_0, .int .u64 a0_1, .int .u64 a0_2] 24 (0, 0)) blk_ hb)
      have n1_ := Aside0.mk (blk_below (g := gb102) (o := .cells #[.bool a1_0, .int .u64 a1_1, .int .u64 a1_2] 24 (0, 0)) blk_ hb)
      have n2_ := Aside0.mk (blk_below (g := gb103) (o := .cells #[.bool a2_0, .int .u64 a2_1, .int .u64 a2_2] 24 (0, 0)) blk_ hb)
      have n3_ := Aside0.mk (below_step bel_ hb)
      have n4_ := Aside0.mk (hbox)
      have n5_ := Aside0.mk ((by rw [hg]; exact (below_size bel_) : w.heap.size ≤ gb111))
      have n6_ := Aside0.mk ((by rw [hg]; exact (below_size bel_) : w.heap.size ≤ gb111))
      have n7_ := Aside0.mk ((by rw [hg]; exact Nat.ne_of_lt (blk_lt (g := gb101) (o := .cells #[.bool a0_0, .int .u64 a0_1, .int .u64 a0_2] 24 (0, 0)) blk_) : gb101 ≠ gb111))
      have n8_ := Aside0.mk ((by rw [hg]; exact Nat.ne_of_gt (blk_lt (g := gb101) (o := .cells #[.bool a0_0, .int .u64 a0_1, .int .u64 a0_2] 24 (0, 0)) blk_) : gb111 ≠ gb101))
      have n9_ := Aside0.mk ((by rw [hg]; exact Nat.ne_of_lt (blk_lt (g := gb102) (o := .cells #[.bool a1_0, .int .u64 a1_1, .int .u64 a1_2] 24 (0, 0)) blk_) : gb102 ≠ gb111))
      have n10_ := Aside0.mk ((by rw [hg]; exact Nat.ne_of_gt (blk_lt (g := gb102) (o := .cells #[.bool a1_0, .int .u64 a1_1, .int .u64 a1_2] 24 (0, 0)) blk_) : gb111 ≠ gb102))
      have n11_ := Aside0.mk ((by rw [hg]; exact Nat.ne_of_lt (blk_lt (g := gb103) (o := .cells #[.bool a2_0, .int .u64 a2_1, .int .u64 a2_2] 24 (0, 0)) blk_) : gb103 ≠ gb111))
      have n12_ := Aside0.mk ((by rw [hg]; exact Nat.ne_of_gt (blk_lt (g := gb103) (o := .cells #[.bool a2_0, .int .u64 a2_1, .int .u64 a2_2] 24 (0, 0)) blk_) : gb111 ≠ gb103))
      clear BK101
      clear BK102
      clear BK103
      clear HB
      have BK101 := n0_
      have BK102 := n1_
      have BK103 := n2_
      have HB := n3_
      have BK111 := n4_
      have GW111 := n5_
      have GE111 := n6_
      have NB101_111 := n7_
      have NB111_101 := n8_
      have NB102_111 := n9_
      have NB111_102 := n10_
      have NB103_111 := n11_
      have NB111_103 := n12_
      clear n0_ n1_ n2_ n3_ n4_ n5_ n6_ n7_ n8_ n9_ n10_ n11_ n12_
      clear hb hbox hg
      refine hK.out _ _ ⟨(blk_cell BK101.out 0).trans rfl, (blk_cell BK101.out 1).trans rfl, (blk_cell BK101.out 2).trans rfl, (blk_cell BK102.out 0).trans rfl, (blk_cell BK102.out 1).trans rfl, (blk_cell BK102.out 2).trans rfl, (blk_cell BK103.out 0).trans rfl, (blk_cell BK103.out 1).trans rfl, (blk_cell BK103.out 2).trans rfl⟩ (fun hHeld => ?_)
      clear hK K
      refine norm_ (a' := ?_) ?_ ?_
      rotate_left
      · show Act.put _ (some 12) _ = _
        simp only [Act.put, List.setIfInBounds_toArray, List.set_cons_zero, List.set_cons_succ, i64_w, i32_w]
        rfl
      refine one_ (i := 2) (N := some 19) #[true, true, true, true, false, true, false] rfl rfl (by kernel_rfl) (by decide) (fun K hK => ?_)
      refine goes_ Try.func17 (by kernel_rfl) rfl #[.agg #[.bool a0_0, .int .u64 a0_1, .int .u64 a0_2], .agg #[.bool a1_0, .int .u64 a1_1, .int .u64 a1_2]] (by rfl) rfl rfl lna_ ?_
      with_reducible refine (curve_Add.calls a0_0 a0_1 a0_2 a1_0 a1_1 a1_2 t105 t106 t107 _ A7.out).mono ?_
      rintro e w20 ⟨rfl, hb⟩
      refine ⟨_, rfl, ?_⟩
      have n0_ := Aside0.mk (blk_below (g := gb101) (o := .cells #[.bool a0_0, .int .u64 a0_1, .int .u64 a0_2] 24 (0, 0)) blk_ hb)
      have n1_ := Aside0.mk (blk_below (g := gb102) (o := .cells #[.bool a1_0, .int .u64 a1_1, .int .u64 a1_2] 24 (0, 0)) blk_ hb)
      have n2_ := Aside0.mk (blk_below (g := gb103) (o := .cells #[.bool a2_0, .int .u64 a2_1, .int .u64 a2_2] 24 (0, 0)) blk_ hb)
      have n3_ := Aside0.mk (blk_below (g := gb111) (o := .cells #[.bool false, .int .u64 0, .int .u64 0] 24 (0, 0)) blk_ hb)
      have n4_ := Aside0.mk (below_step bel_ hb)
      clear BK101
      clear BK102
      clear BK103
      clear BK111
      clear HB
      have BK101 := n0_
      have BK102 := n1_
      have BK103 := n2_
      have BK111 := n3_
      have HB := n4_
      clear n0_ n1_ n2_ n3_ n4_
      (try clear hb)
      (try clear hb2)
      (try clear hk)
      (try clear hi)
      refine hK.out _ _ ⟨(blk_cell BK101.out 0).trans rfl, (blk_cell BK101.out 1).trans rfl, (blk_cell BK101.out 2).trans rfl, (blk_cell BK102.out 0).trans rfl, (blk_cell BK102.out 1).trans rfl, (blk_cell BK102.out 2).trans rfl, (blk_cell BK103.out 0).trans rfl, (blk_cell BK103.out 1).trans rfl, (blk_cell BK103.out 2).trans rfl⟩ (fun hHeld => ?_)
      clear hK K
      refine norm_ (a' := ?_) ?_ ?_
      rotate_left
      · show Act.put _ (some 19) _ = _
        simp only [Act.put, List.setIfInBounds_toArray, List.set_cons_zero, List.set_cons_succ, i64_w, i32_w]
        rfl
      refine one_ (i := 4) (N := some 21) #[true, true, true, true, true, true, false] rfl rfl (by kernel_rfl) (by decide) (fun K hK => ?_)
      refine goes_ Try.func17 (by kernel_rfl) rfl #[.agg #[.bool t105, .int .u64 t106, .int .u64 t107], .agg #[.bool a2_0, .int .u64 a2_1, .int .u64 a2_2]] (by rfl) rfl rfl lna_ ?_
      with_reducible refine (curve_Add.calls t105 t106 t107 a2_0 a2_1 a2_2 t108 t109 t110 _ A8.out).mono ?_
      rintro e w21 ⟨rfl, hb⟩
      refine ⟨_, rfl, ?_⟩
      have n0_ := Aside0.mk (blk_below (g := gb101) (o := .cells #[.bool a0_0, .int .u64 a0_1, .int .u64 a0_2] 24 (0, 0)) blk_ hb)
      have n1_ := Aside0.mk (blk_below (g := gb102) (o := .cells #[.bool a1_0, .int .u64 a1_1, .int .u64 a1_2] 24 (0, 0)) blk_ hb)
      have n2_ := Aside0.mk (blk_below (g := gb103) (o := .cells #[.bool a2_0, .int .u64 a2_1, .int .u64 a2_2] 24 (0, 0)) blk_ hb)
      have n3_ := Aside0.mk (blk_below (g := gb111) (o := .cells #[.bool false, .int .u64 0, .int .u64 0] 24 (0, 0)) blk_ hb)
      have n4_ := Aside0.mk (below_step bel_ hb)
      clear BK101
      clear BK102
      clear BK103
      clear BK111
      clear HB
      have BK101 := n0_
      have BK102 := n1_
      have BK103 := n2_
      have BK111 := n3_
      have HB := n4_
      clear n0_ n1_ n2_ n3_ n4_
      (try clear hb)
      (try clear hb2)
      (try clear hk)
      (try clear hi)
      refine hK.out _ _ ⟨(blk_cell BK101.out 0).trans rfl, (blk_cell BK101.out 1).trans rfl, (blk_cell BK101.out 2).trans rfl, (blk_cell BK102.out 0).trans rfl, (blk_cell BK102.out 1).trans rfl, (blk_cell BK102.out 2).trans rfl, (blk_cell BK103.out 0).trans rfl, (blk_cell BK103.out 1).trans rfl, (blk_cell BK103.out 2).trans rfl⟩ (fun hHeld => ?_)
      clear hK K
      refine norm_ (a' := ?_) ?_ ?_
      rotate_left
      · show Act.put _ (some 21) _ = _
        simp only [Act.put, List.setIfInBounds_toArray, List.set_cons_zero, List.set_cons_succ, i64_w, i32_w]
        rfl
      exact norm_ (by simp only [putAll, Act.put, List.setIfInBounds_toArray, List.set_cons_zero, List.set_cons_succ]) (hCont (gb111) _ ⟨hHeld, blk_, blk_, blk_, blk_, GW111.out, GE111.out, NB101_111.out, NB111_101.out, NB102_111.out, NB111_102.out, NB103_111.out, NB111_103.out, bel_⟩)
  rintro gb111 w22 ⟨hS_, h0_, h1_, h2_, h3_, h4_, h5_, h6_, h7_, h8_, h9_, h10_, h11_, h12_⟩
  have n0_ : Aside0 (w22.heap[gb101]? = some (.cells #[.bool a0_0, .int .u64 a0_1, .int .u64 a0_2] 24 (0, 0))) := ⟨h0_⟩
  have n1_ : Aside0 (w22.heap[gb102]? = some (.cells #[.bool a1_0, .int .u64 a1_1, .int .u64 a1_2] 24 (0, 0))) := ⟨h1_⟩
  have n2_ : Aside0 (w22.heap[gb103]? = some (.cells #[.bool a2_0, .int .u64 a2_1, .int .u64 a2_2] 24 (0, 0))) := ⟨h2_⟩
  have n3_ : Aside0 (w22.heap[gb111]? = some (.cells #[.bool false, .int .u64 0, .int .u64 0] 24 (0, 0))) := ⟨h3_⟩
  have n4_ : Aside0 (w.heap.size ≤ gb111) := ⟨h4_⟩
  have n5_ : Aside0 (w.heap.size ≤ gb111) := ⟨h5_⟩
  have n6_ : Aside0 (gb101 ≠ gb111) := ⟨h6_⟩
  have n7_ : Aside0 (gb111 ≠ gb101) := ⟨h7_⟩
  have n8_ : Aside0 (gb102 ≠ gb111) := ⟨h8_⟩
  have n9_ : Aside0 (gb111 ≠ gb102) := ⟨h9_⟩
  have n10_ : Aside0 (gb103 ≠ gb111) := ⟨h10_⟩
  have n11_ : Aside0 (gb111 ≠ gb103) := ⟨h11_⟩
  have n12_ : Aside0 (Below w.heap.size w w22) := ⟨h12_⟩
  clear BK101
  clear BK102
  clear BK103
  clear HB
  clear h0_ h1_ h2_ h3_ h4_ h5_ h6_ h7_ h8_ h9_ h10_ h11_ h12_
  have BK101 := n0_
  have BK102 := n1_
  have BK103 := n2_
  have BK111 := n3_
  have GW111 := n4_
  have GE111 := n5_
  have NB101_111 := n6_
  have NB111_101 := n7_
  have NB102_111 := n8_
  have NB111_102 := n9_
  have NB103_111 := n10_
  have NB111_103 := n11_
  have HB := n12_
  clear n0_ n1_ n2_ n3_ n4_ n5_ n6_ n7_ n8_ n9_ n10_ n11_ n12_
  have hHeld : w22.cell? ⟨gb101, 0, none⟩ = some (.bool a0_0) ∧ w22.cell? ⟨gb101, 1, none⟩ = some (.int .u64 a0_1) ∧ w22.cell? ⟨gb101, 2, none⟩ = some (.int .u64 a0_2) ∧ w22.cell? ⟨gb102, 0, none⟩ = some (.bool a1_0) ∧ w22.cell? ⟨gb102, 1, none⟩ = some (.int .u64 a1_1) ∧ w22.cell? ⟨gb102, 2, none⟩ = some (.int .u64 a1_2) ∧ w22.cell? ⟨gb103, 0, none⟩ = some (.bool a2_0) ∧ w22.cell? ⟨gb103, 1, none⟩ = some (.int .u64 a2_1) ∧ w22.cell? ⟨gb103, 2, none⟩ = some (.int .u64 a2_2) := hS_
  refine norm_ (a' := ?_) ?_ ?_
  rotate_left
  · simp only [putAll, Act.put, List.setIfInBounds_toArray, List.set_cons_zero, List.set_cons_succ]
    rfl
  refine one_ (i := 6) (N := none) #[true, true, true, true, true, true, true] rfl rfl (by kernel_rfl) (by decide) (fun K hK => ?_)
  have hs23 : w22.cell? ⟨gb111, 0, none⟩ = some (.bool false) := (blk_cell BK111.out 0).trans rfl
  have hfs23 := blk_frozen BK111.out 0
  have hns23_0 := NB101_111.out
  have hns23_1 := NB102_111.out
  have hns23_2 := NB103_111.out
  have hms23_0 := NB111_101.out
  have hms23_1 := NB111_102.out
  have hms23_2 := NB111_103.out
  have hs24 : w22.cell? ⟨gb111, 1, none⟩ = some (.int .u64 0) := (blk_cell BK111.out 1).trans rfl
  have hfs24 := blk_frozen BK111.out 1
  have hns24_0 := NB101_111.out
  have hns24_1 := NB102_111.out
  have hns24_2 := NB103_111.out
  have hms24_0 := NB111_101.out
  have hms24_1 := NB111_102.out
  have hms24_2 := NB111_103.out
  have hs25 : w22.cell? ⟨gb111, 2, none⟩ = some (.int .u64 0) := (blk_cell BK111.out 2).trans rfl
  have hfs25 := blk_frozen BK111.out 2
  have hns25_0 := NB101_111.out
  have hns25_1 := NB102_111.out
  have hns25_2 := NB103_111.out
  have hms25_0 := NB111_101.out
  have hms25_1 := NB111_102.out
  have hms25_2 := NB111_103.out
  refine skip_ (w1 := ?_) (by rfl) rfl ?_ ?_
  rotate_left
  · go_simp
    rfl
  refine hK.out _ _ ⟨((cell_far (p := ⟨gb111, _, none⟩) NB101_111.out _).trans (((cell_far (p := ⟨gb111, _, none⟩) NB101_111.out _).trans (((cell_far (p := ⟨gb111, _, none⟩) NB101_111.out _).trans (hHeld.1)))))), ((cell_far (p := ⟨gb111, _, none⟩) NB101_111.out _).trans (((cell_far (p := ⟨gb111, _, none⟩) NB101_111.out _).trans (((cell_far (p := ⟨gb111, _, none⟩) NB101_111.out _).trans (hHeld.2.1)))))), ((cell_far (p := ⟨gb111, _, none⟩) NB101_111.out _).trans (((cell_far (p := ⟨gb111, _, none⟩) NB101_111.out _).trans (((cell_far (p := ⟨gb111, _, none⟩) NB101_111.out _).trans (hHeld.2.2.1)))))), ((cell_far (p := ⟨gb111, _, none⟩) NB102_111.out _).trans (((cell_far (p := ⟨gb111, _, none⟩) NB102_111.out _).trans (((cell_far (p := ⟨gb111, _, none⟩) NB102_111.out _).trans (hHeld.2.2.2.1)))))), ((cell_far (p := ⟨gb111, _, none⟩) NB102_111.out _).trans (((cell_far (p := ⟨gb111, _, none⟩) NB102_111.out _).trans (((cell_far (p := ⟨gb111, _, none⟩) NB102_111.out _).trans (hHeld.2.2.2.2.1)))))), ((cell_far (p := ⟨gb111, _, none⟩) NB102_111.out _).trans (((cell_far (p := ⟨gb111, _, none⟩) NB102_111.out _).trans (((cell_far (p := ⟨gb111, _, none⟩) NB102_111.out _).trans (hHeld.2.2.2.2.2.1)))))), ((cell_far (p := ⟨gb111, _, none⟩) NB103_111.out _).trans (((cell_far (p := ⟨gb111, _, none⟩) NB103_111.out _).trans (((cell_far (p := ⟨gb111, _, none⟩) NB103_111.out _).trans (hHeld.2.2.2.2.2.2.1)))))), ((cell_far (p := ⟨gb111, _, none⟩) NB103_111.out _).trans (((cell_far (p := ⟨gb111, _, none⟩) NB103_111.out _).trans (((cell_far (p := ⟨gb111, _, none⟩) NB103_111.out _).trans (hHeld.2.2.2.2.2.2.2.1)))))), ((cell_far (p := ⟨gb111, _, none⟩) NB103_111.out _).trans (((cell_far (p := ⟨gb111, _, none⟩) NB103_111.out _).trans (((cell_far (p := ⟨gb111, _, none⟩) NB103_111.out _).trans (hHeld.2.2.2.2.2.2.2.2))))))⟩ (fun hHeld => ?_)
  clear hK K
  refine done_ (by kernel_rfl) ?_
  try go_wp2
  have n0_ : Aside0 ((((w22.setCell ⟨gb111, 0, none⟩ (.bool t108)).setCell ⟨gb111, 1, none⟩ (.int .u64 t109)).setCell ⟨gb111, 2, none⟩ (.int .u64 t110)).heap[gb101]? = some (.cells #[.bool a0_0, .int .u64 a0_1, .int .u64 a0_2] 24 (0, 0))) := ⟨by (with_reducible repeat (first | refine blk_drewN ?_ _ | refine blk_drew ?_ | refine blk_alloc ?_ _)); refine blk_far ?_ NB101_111.out _; (with_reducible repeat (first | refine blk_drewN ?_ _ | refine blk_drew ?_ | refine blk_alloc ?_ _)); refine blk_far ?_ NB101_111.out _; (with_reducible repeat (first | refine blk_drewN ?_ _ | refine blk_drew ?_ | refine blk_alloc ?_ _)); refine blk_far ?_ NB101_111.out _; exact blk_⟩
  have n1_ : Aside0 ((((w22.setCell ⟨gb111, 0, none⟩ (.bool t108)).setCell ⟨gb111, 1, none⟩ (.int .u64 t109)).setCell ⟨gb111, 2, none⟩ (.int .u64 t110)).heap[gb102]? = some (.cells #[.bool a1_0, .int .u64 a1_1, .int .u64 a1_2] 24 (0, 0))) := ⟨by (with_reducible repeat (first | refine blk_drewN ?_ _ | refine blk_drew ?_ | refine blk_alloc ?_ _)); refine blk_far ?_ NB102_111.out _; (with_reducible repeat (first | refine blk_drewN ?_ _ | refine blk_drew ?_ | refine blk_alloc ?_ _)); refine blk_far ?_ NB102_111.out _; (with_reducible repeat (first | refine blk_drewN ?_ _ | refine blk_drew ?_ | refine blk_alloc ?_ _)); refine blk_far ?_ NB102_111.out _; exact blk_⟩
  have n2_ : Aside0 ((((w22.setCell ⟨gb111, 0, none⟩ (.bool t108)).setCell ⟨gb111, 1, none⟩ (.int .u64 t109)).setCell ⟨gb111, 2, none⟩ (.int .u64 t110)).heap[gb103]? = some (.cells #[.bool a2_0, .int .u64 a2_1, .int .u64 a2_2] 24 (0, 0))) := ⟨by (with_reducible repeat (first | refine blk_drewN ?_ _ | refine blk_drew ?_ | refine blk_alloc ?_ _)); refine blk_far ?_ NB103_111.out _; (with_reducible repeat (first | refine blk_drewN ?_ _ | refine blk_drew ?_ | refine blk_alloc ?_ _)); refine blk_far ?_ NB103_111.out _; (with_reducible repeat (first | refine blk_drewN ?_ _ | refine blk_drew ?_ | refine blk_alloc ?_ _)); refine blk_far ?_ NB103_111.out _; exact blk_⟩
  have n3_ : Aside0 ((((w22.setCell ⟨gb111, 0, none⟩ (.bool t108)).setCell ⟨gb111, 1, none⟩ (.int .u64 t109)).setCell ⟨gb111, 2, none⟩ (.int .u64 t110)).heap[gb111]? = some (.cells #[.bool t108, .int .u64 t109, .int .u64 t110] 24 (0, 0))) := ⟨by (with_reducible repeat (first | refine blk_drewN ?_ _ | refine blk_drew ?_ | refine blk_alloc ?_ _)); refine blk_put (cs := #[.bool t108, .int .u64 t109, .int .u64 0]) ?_ 2 _ rfl; (with_reducible repeat (first | refine blk_drewN ?_ _ | refine blk_drew ?_ | refine blk_alloc ?_ _)); refine blk_put (cs := #[.bool t108, .int .u64 0, .int .u64 0]) ?_ 1 _ rfl; (with_reducible repeat (first | refine blk_drewN ?_ _ | refine blk_drew ?_ | refine blk_alloc ?_ _)); refine blk_put (cs := #[.bool false, .int .u64 0, .int .u64 0]) ?_ 0 _ rfl; exact blk_⟩
  have n4_ : Aside0 (Below w.heap.size w (((w22.setCell ⟨gb111, 0, none⟩ (.bool t108)).setCell ⟨gb111, 1, none⟩ (.int .u64 t109)).setCell ⟨gb111, 2, none⟩ (.int .u64 t110))) := ⟨bel_⟩
  (try clear BK101)
  (try clear BK102)
  (try clear BK103)
  (try clear BK111)
  (try clear HB)
  generalize (((w22.setCell ⟨gb111, 0, none⟩ (.bool t108)).setCell ⟨gb111, 1, none⟩ (.int .u64 t109)).setCell ⟨gb111, 2, none⟩ (.int .u64 t110)) = w26 at n0_ n1_ n2_ n3_ n4_ ⊢
  have BK101 := n0_
  have BK102 := n1_
  have BK103 := n2_
  have BK111 := n3_
  have HB := n4_
  clear n0_ n1_ n2_ n3_ n4_
  (repeat rw [World.drewN_drewN])
  (try (rw [drewN_self w26]; generalize hq_ : World.drewN w26 _ = w26; have n0_ : Aside0 (w26.heap[gb101]? = some (.cells #[.bool a0_0, .int .u64 a0_1, .int .u64 a0_2] 24 (0, 0))) := ⟨by rw [← hq_]; exact blk_⟩; have n1_ : Aside0 (w26.heap[gb102]? = some (.cells #[.bool a1_0, .int .u64 a1_1, .int .u64 a1_2] 24 (0, 0))) := ⟨by rw [← hq_]; exact blk_⟩; have n2_ : Aside0 (w26.heap[gb103]? = some (.cells #[.bool a2_0, .int .u64 a2_1, .int .u64 a2_2] 24 (0, 0))) := ⟨by rw [← hq_]; exact blk_⟩; have n3_ : Aside0 (w26.heap[gb111]? = some (.cells #[.bool t108, .int .u64 t109, .int .u64 t110] 24 (0, 0))) := ⟨by rw [← hq_]; exact blk_⟩; have n4_ : Aside0 (Below w.heap.size w w26) := ⟨by rw [← hq_]; exact bel_⟩; clear BK101 BK102 BK103 BK111 HB hq_; have BK101 := n0_; have BK102 := n1_; have BK103 := n2_; have BK111 := n3_; have HB := n4_; clear n0_ n1_ n2_ n3_ n4_))
  have n0_ := Aside0.mk (blk_drew BK101.out)
  have n1_ := Aside0.mk (blk_drew BK102.out)
  have n2_ := Aside0.mk (blk_drew BK103.out)
  have n3_ := Aside0.mk (blk_drew BK111.out)
  have n4_ := Aside0.mk (below_drew1 HB.out)
  clear BK101
  clear BK102
  clear BK103
  clear BK111
  clear HB
  have BK101 := n0_
  have BK102 := n1_
  have BK103 := n2_
  have BK111 := n3_
  have HB := n4_
  clear n0_ n1_ n2_ n3_ n4_
  refine start_ (n := 7) (S := fun w' => w'.cell? ⟨gb102, 0, none⟩ = some (.bool a1_0) ∧ w'.cell? ⟨gb102, 1, none⟩ = some (.int .u64 a1_1) ∧ w'.cell? ⟨gb102, 2, none⟩ = some (.int .u64 a1_2) ∧ w'.cell? ⟨gb103, 0, none⟩ = some (.bool a2_0) ∧ w'.cell? ⟨gb103, 1, none⟩ = some (.int .u64 a2_1) ∧ w'.cell? ⟨gb103, 2, none⟩ = some (.int .u64 a2_2) ∧ w'.cell? ⟨gb101, 0, none⟩ = some (.bool a0_0) ∧ w'.cell? ⟨gb101, 1, none⟩ = some (.int .u64 a0_1) ∧ w'.cell? ⟨gb101, 2, none⟩ = some (.int .u64 a0_2)) (ds := []) #[false, false, false, false, false, false, false] (by kernel_rfl) rfl rfl ⟨(blk_cell BK102.out 0).trans rfl, (blk_cell BK102.out 1).trans rfl, (blk_cell BK102.out 2).trans rfl, (blk_cell BK103.out 0).trans rfl, (blk_cell BK103.out 1).trans rfl, (blk_cell BK103.out 2).trans rfl, (blk_cell BK101.out 0).trans rfl, (blk_cell BK101.out 1).trans rfl, (blk_cell BK101.out 2).trans rfl⟩ (fun hHeld => ?_)
  generalize w26.drew = w27 at BK101 BK102 BK103 BK111 HB hHeld ⊢
  refine take_ (i := 0) (N := some 22) (v := ?_) (a' := ?_) #[true, false, false, false, false, false, false] rfl rfl (by kernel_rfl) (fun _ _ _ h => h) (Or.inl ⟨by rfl, ?_⟩) hHeld ?_ ?_
  rotate_left
  · rintro w' ⟨s0, s1, s2, s3, s4, s5, s6, s7, s8⟩
    go_simp
    with_reducible rfl
  rotate_left
  · simp only [Act.put, List.setIfInBounds_toArray, List.set_cons_zero, List.set_cons_succ, i64_w, i32_w]
    rfl
  refine take_ (i := 1) (N := some 23) (v := ?_) (a' := ?_) #[true, true, false, false, false, false, false] rfl rfl (by kernel_rfl) (fun _ _ _ h => h) (Or.inl ⟨by rfl, ?_⟩) hHeld ?_ ?_
  rotate_left
  · rintro w' ⟨s0, s1, s2, s3, s4, s5, s6, s7, s8⟩
    go_simp
    with_reducible rfl
  rotate_left
  · simp only [Act.put, List.setIfInBounds_toArray, List.set_cons_zero, List.set_cons_succ, i64_w, i32_w]
    rfl
  refine take_ (i := 2) (N := some 24) (v := ?_) (a' := ?_) #[true, true, true, false, false, false, false] rfl rfl (by kernel_rfl) (fun _ _ _ h => h) (Or.inl ⟨by rfl, ?_⟩) hHeld ?_ ?_
  rotate_left
  · rintro w' ⟨s0, s1, s2, s3, s4, s5, s6, s7, s8⟩
    go_simp
    with_reducible rfl
  rotate_left
  · simp only [Act.put, List.setIfInBounds_toArray, List.set_cons_zero, List.set_cons_succ, i64_w, i32_w]
    rfl
  refine join_ (σ := Nat) 1 #[true, true, true, true, true, true, false] (fun s_ => [(25, .agg #[.bool t112, .int .u64 t113, .int .u64 t114]), (26, .agg #[.bool t115, .int .u64 t116, .int .u64 t117]), (13, .pointer (some ⟨s_, 0, none⟩))]) (fun s_ w' => (w'.cell? ⟨gb102, 0, none⟩ = some (.bool a1_0) ∧ w'.cell? ⟨gb102, 1, none⟩ = some (.int .u64 a1_1) ∧ w'.cell? ⟨gb102, 2, none⟩ = some (.int .u64 a1_2) ∧ w'.cell? ⟨gb103, 0, none⟩ = some (.bool a2_0) ∧ w'.cell? ⟨gb103, 1, none⟩ = some (.int .u64 a2_1) ∧ w'.cell? ⟨gb103, 2, none⟩ = some (.int .u64 a2_2) ∧ w'.cell? ⟨gb101, 0, none⟩ = some (.bool a0_0) ∧ w'.cell? ⟨gb101, 1, none⟩ = some (.int .u64 a0_1) ∧ w'.cell? ⟨gb101, 2, none⟩ = some (.int .u64 a0_2)) ∧ (w'.heap[gb101]? = some (.cells #[.bool a0_0, .int .u64 a0_1, .int .u64 a0_2] 24 (0, 0))) ∧ (w'.heap[gb102]? = some (.cells #[.bool a1_0, .int .u64 a1_1, .int .u64 a1_2] 24 (0, 0))) ∧ (w'.heap[gb103]? = some (.cells #[.bool a2_0, .int .u64 a2_1, .int .u64 a2_2] 24 (0, 0))) ∧ (w'.heap[gb111]? = some (.cells #[.bool t108, .int .u64 t109, .int .u64 t110] 24 (0, 0))) ∧ (w'.heap[s_]? = some (.cells #[.bool false, .int .u64 0, .int .u64 0] 24 (0, 0))) ∧ (w.heap.size ≤ s_) ∧ (w.heap.size ≤ s_) ∧ (gb101 ≠ s_) ∧ (s_ ≠ gb101) ∧ (gb102 ≠ s_) ∧ (s_ ≠ gb102) ∧ (gb103 ≠ s_) ∧ (s_ ≠ gb103) ∧ (gb111 ≠ s_) ∧ (s_ ≠ gb111) ∧ (Below w.heap.size w w')) ?_ ?_
  rotate_left
  · intro hCont
    refine two_ (i := 3) (j := 5) (Ni := some 25) (Nj := some 13) #[true, true, true, true, false, false, false] #[true, true, true, false, false, true, false] rfl rfl rfl rfl (by kernel_rfl) (by decide) (by decide) (fun K hK => ?_) (fun K hK => ?_)
    · skip
      refine goes_ Try.func17 (by kernel_rfl) rfl #[.agg #[.bool a2_0, .int .u64 a2_1, .int .u64 a2_2], .agg #[.bool a0_0, .int .u64 a0_1, .int .u64 a0_2]] (by rfl) rfl rfl lna_ ?_
      with_reducible refine (curve_Add.calls a2_0 a2_1 a2_2 a0_0 a0_1 a0_2 t112 t113 t114 _ A9.out).mono ?_
      rintro e w28 ⟨rfl, hb⟩
      refine ⟨_, rfl, ?_⟩
      have n0_ := Aside0.mk (blk_below (g := gb101) (o := .cells #[.bool a0_0, .int .u64 a0_1, .int .u64 a0_2] 24 (0, 0)) blk_ hb)
      have n1_ := Aside0.mk (blk_below (g := gb102) (o := .cells #[.bool a1_0, .int .u64 a1_1, .int .u64 a1_2] 24 (0, 0)) blk_ hb)
      have n2_ := Aside0.mk (blk_below (g := gb103) (o := .cells #[.bool a2_0, .int .u64 a2_1, .int .u64 a2_2] 24 (0, 0)) blk_ hb)
      have n3_ := Aside0.mk (blk_below (g := gb111) (o := .cells #[.bool t108, .int .u64 t109, .int .u64 t110] 24 (0, 0)) blk_ hb)
      have n4_ := Aside0.mk (below_step bel_ hb)
      clear BK101
      clear BK102
      clear BK103
      clear BK111
      clear HB
      have BK101 := n0_
      have BK102 := n1_
      have BK103 := n2_
      have BK111 := n3_
      have HB := n4_
      clear n0_ n1_ n2_ n3_ n4_
      (try clear hb)
      (try clear hb2)
      (try clear hk)
      (try clear hi)
      refine hK.out _ _ ⟨(blk_cell BK102.out 0).trans rfl, (blk_cell BK102.out 1).trans rfl, (blk_cell BK102.out 2).trans rfl, (blk_cell BK103.out 0).trans rfl, (blk_cell BK103.out 1).trans rfl, (blk_cell BK103.out 2).trans rfl, (blk_cell BK101.out 0).trans rfl, (blk_cell BK101.out 1).trans rfl, (blk_cell BK101.out 2).trans rfl⟩ (fun hHeld => ?_)
      clear hK K
      refine norm_ (a' := ?_) ?_ ?_
      rotate_left
      · show Act.put _ (some 25) _ = _
        simp only [Act.put, List.setIfInBounds_toArray, List.set_cons_zero, List.set_cons_succ, i64_w, i32_w]
        rfl
      refine two_ (i := 4) (j := 5) (Ni := some 26) (Nj := some 13) #[true, true, true, true, true, false, false] #[true, true, true, true, false, true, false] rfl rfl rfl rfl (by kernel_rfl) (by decide) (by decide) (fun K hK => ?_) (fun K hK => ?_)
      · skip
        refine goes_ Try.func17 (by kernel_rfl) rfl #[.agg #[.bool a1_0, .int .u64 a1_1, .int .u64 a1_2], .agg #[.bool t112, .int .u64 t113, .int .u64 t114]] (by rfl) rfl rfl lna_ ?_
        with_reducible refine (curve_Add.calls a1_0 a1_1 a1_2 t112 t113 t114 t115 t116 t117 _ A10.out).mono ?_
        rintro e w29 ⟨rfl, hb⟩
        refine ⟨_, rfl, ?_⟩
        have n0_ := Aside0.mk (blk_below (g := gb101) (o := .cells #[.bool a0_0, .int .u64 a0_1, .int .u64 a0_2] 24 (0, 0)) blk_ hb)
        have n1_ := Aside0.mk (blk_below (g := gb102) (o := .cells #[.bool a1_0, .int .u64 a1_1, .int .u64 a1_2] 24 (0, 0)) blk_ hb)
        have n2_ := Aside0.mk (blk_below (g := gb103) (o := .cells #[.bool a2_0, .int .u64 a2_1, .int .u64 a2_2] 24 (0, 0)) blk_ hb)
        have n3_ := Aside0.mk (blk_below (g := gb111) (o := .cells #[.bool t108, .int .u64 t109, .int .u64 t110] 24 (0, 0)) blk_ hb)
        have n4_ := Aside0.mk (below_step bel_ hb)
        clear BK101
        clear BK102
        clear BK103
        clear BK111
        clear HB
        have BK101 := n0_
        have BK102 := n1_
        have BK103 := n2_
        have BK111 := n3_
        have HB := n4_
        clear n0_ n1_ n2_ n3_ n4_
        (try clear hb)
        (try clear hb2)
        (try clear hk)
        (try clear hi)
        refine hK.out _ _ ⟨(blk_cell BK102.out 0).trans rfl, (blk_cell BK102.out 1).trans rfl, (blk_cell BK102.out 2).trans rfl, (blk_cell BK103.out 0).trans rfl, (blk_cell BK103.out 1).trans rfl, (blk_cell BK103.out 2).trans rfl, (blk_cell BK101.out 0).trans rfl, (blk_cell BK101.out 1).trans rfl, (blk_cell BK101.out 2).trans rfl⟩ (fun hHeld => ?_)
        clear hK K
        refine norm_ (a' := ?_) ?_ ?_
        rotate_left
        · show Act.put _ (some 26) _ = _
          simp only [Act.put, List.setIfInBounds_toArray, List.set_cons_zero, List.set_cons_succ, i64_w, i32_w]
          rfl
        refine one_ (i := 5) (N := some 13) #[true, true, true, true, true, true, false] rfl rfl (by kernel_rfl) (by decide) (fun K hK => ?_)
        refine box_step ?hg (N := 13) ?hd (cs := #[.bool false, .int .u64 0, .int .u64 0]) (t := 24) ?hr ?_; (case hd => rfl); (case hg => rfl); (case hr => first | (go_simp; done) | (go_simp; rfl))
        intro gb118 hg w30 hbox hb
        have n0_ := Aside0.mk (blk_below (g := gb101) (o := .cells #[.bool a0_0, .int .u64 a0_1, .int .u64 a0_2] 24 (0, 0)) blk_ hb)
        have n1_ := Aside0.mk (blk_below (g := gb102) (o := .cells #[.bool a1_0, .int .u64 a1_1, .int .u64 a1_2] 24 (0, 0)) blk_ hb)
        have n2_ := Aside0.mk (blk_below (g := gb103) (o := .cells #[.bool a2_0, .int .u64 a2_1, .int .u64 a2_2] 24 (0, 0)) blk_ hb)
        have n3_ := Aside0.mk (blk_below (g := gb111) (o := .cells #[.bool t108, .int .u64 t109, .int .u64 t110] 24 (0, 0)) blk_ hb)
        have n4_ := Aside0.mk (below_step bel_ hb)
        have n5_ := Aside0.mk (hbox)
        have n6_ := Aside0.mk ((by rw [hg]; exact (below_size bel_) : w.heap.size ≤ gb118))
        have n7_ := Aside0.mk ((by rw [hg]; exact (below_size bel_) : w.heap.size ≤ gb118))
        have n8_ := Aside0.mk ((by rw [hg]; exact Nat.ne_of_lt (blk_lt (g := gb101) (o := .cells #[.bool a0_0, .int .u64 a0_1, .int .u64 a0_2] 24 (0, 0)) blk_) : gb101 ≠ gb118))
        have n9_ := Aside0.mk ((by rw [hg]; exact Nat.ne_of_gt (blk_lt (g := gb101) (o := .cells #[.bool a0_0, .int .u64 a0_1, .int .u64 a0_2] 24 (0, 0)) blk_) : gb118 ≠ gb101))
        have n10_ := Aside0.mk ((by rw [hg]; exact Nat.ne_of_lt (blk_lt (g := gb102) (o := .cells #[.bool a1_0, .int .u64 a1_1, .int .u64 a1_2] 24 (0, 0)) blk_) : gb102 ≠ gb118))
        have n11_ := Aside0.mk ((by rw [hg]; exact Nat.ne_of_gt (blk_lt (g := gb102) (o := .cells #[.bool a1_0, .int .u64 a1_1, .int .u64 a1_2] 24 (0, 0)) blk_) : gb118 ≠ gb102))
        have n12_ := Aside0.mk ((by rw [hg]; exact Nat.ne_of_lt (blk_lt (g := gb103) (o := .cells #[.bool a2_0, .int .u64 a2_1, .int .u64 a2_2] 24 (0, 0)) blk_) : gb103 ≠ gb118))
        have n13_ := Aside0.mk ((by rw [hg]; exact Nat.ne_of_gt (blk_lt (g := gb103) (o := .cells #[.bool a2_0, .int .u64 a2_1, .int .u64 a2_2] 24 (0, 0)) blk_) : gb118 ≠ gb103))
        have n14_ := Aside0.mk ((by rw [hg]; exact Nat.ne_of_lt (blk_lt (g := gb111) (o := .cells #[.bool t108, .int .u64 t109, .int .u64 t110] 24 (0, 0)) blk_) : gb111 ≠ gb118))
        have n15_ := Aside0.mk ((by rw [hg]; exact Nat.ne_of_gt (blk_lt (g := gb111) (o := .cells #[.bool t108, .int .u64 t109, .int .u64 t110] 24 (0, 0)) blk_) : gb118 ≠ gb111))
        clear BK101
        clear BK102
        clear BK103
        clear BK111
        clear HB
        have BK101 := n0_
        have BK102 := n1_
        have BK103 := n2_
        have BK111 := n3_
        have HB := n4_
        have BK118 := n5_
        have GW118 := n6_
        have GE118 := n7_
        have NB101_118 := n8_
        have NB118_101 := n9_
        have NB102_118 := n10_
        have NB118_102 := n11_
        have NB103_118 := n12_
        have NB118_103 := n13_
        have NB111_118 := n14_
        have NB118_111 := n15_
        clear n0_ n1_ n2_ n3_ n4_ n5_ n6_ n7_ n8_ n9_ n10_ n11_ n12_ n13_ n14_ n15_
        clear hb hbox hg
        refine hK.out _ _ ⟨(blk_cell BK102.out 0).trans rfl, (blk_cell BK102.out 1).trans rfl, (blk_cell BK102.out 2).trans rfl, (blk_cell BK103.out 0).trans rfl, (blk_cell BK103.out 1).trans rfl, (blk_cell BK103.out 2).trans rfl, (blk_cell BK101.out 0).trans rfl, (blk_cell BK101.out 1).trans rfl, (blk_cell BK101.out 2).trans rfl⟩ (fun hHeld => ?_)
        clear hK K
        refine norm_ (a' := ?_) ?_ ?_
        rotate_left
        · show Act.put _ (some 13) _ = _
          simp only [Act.put, List.setIfInBounds_toArray, List.set_cons_zero, List.set_cons_succ, i64_w, i32_w]
          rfl
        exact norm_ (by simp only [putAll, Act.put, List.setIfInBounds_toArray, List.set_cons_zero, List.set_cons_succ]) (hCont (gb118) _ ⟨hHeld, blk_, blk_, blk_, blk_, blk_, GW118.out, GE118.out, NB101_118.out, NB118_101.out, NB102_118.out, NB118_102.out, NB103_118.out, NB118_103.out, NB111_118.out, NB118_111.out, bel_⟩)
      · skip
        refine box_step ?hg (N := 13) ?hd (cs := #[.bool false, .int .u64 0, .int .u64 0]) (t := 24) ?hr ?_; (case hd => rfl); (case hg => rfl); (case hr => first | (go_simp; done) | (go_simp; rfl))
        intro gb118 hg w29 hbox hb
        have n0_ := Aside0.mk (blk_below (g := gb101) (o := .cells #[.bool a0_0, .int .u64 a0_1, .int .u64 a0_2] 24 (0, 0)) blk_ hb)
        have n1_ := Aside0.mk (blk_below (g := gb102) (o := .cells #[.bool a1_0, .int .u64 a1_1, .int .u64 a1_2] 24 (0, 0)) blk_ hb)
        have n2_ := Aside0.mk (blk_below (g := gb103) (o := .cells #[.bool a2_0, .int .u64 a2_1, .int .u64 a2_2] 24 (0, 0)) blk_ hb)
        have n3_ := Aside0.mk (blk_below (g := gb111) (o := .cells #[.bool t108, .int .u64 t109, .int .u64 t110] 24 (0, 0)) blk_ hb)
        have n4_ := Aside0.mk (below_step bel_ hb)
        have n5_ := Aside0.mk (hbox)
        have n6_ := Aside0.mk ((by rw [hg]; exact (below_size bel_) : w.heap.size ≤ gb118))
        have n7_ := Aside0.mk ((by rw [hg]; exact (below_size bel_) : w.heap.size ≤ gb118))
        have n8_ := Aside0.mk ((by rw [hg]; exact Nat.ne_of_lt (blk_lt (g := gb101) (o := .cells #[.bool a0_0, .int .u64 a0_1, .int .u64 a0_2] 24 (0, 0)) blk_) : gb101 ≠ gb118))
        have n9_ := Aside0.mk ((by rw [hg]; exact Nat.ne_of_gt (blk_lt (g := gb101) (o := .cells #[.bool a0_0, .int .u64 a0_1, .int .u64 a0_2] 24 (0, 0)) blk_) : gb118 ≠ gb101))
        have n10_ := Aside0.mk ((by rw [hg]; exact Nat.ne_of_lt (blk_lt (g := gb102) (o := .cells #[.bool a1_0, .int .u64 a1_1, .int .u64 a1_2] 24 (0, 0)) blk_) : gb102 ≠ gb118))
        have n11_ := Aside0.mk ((by rw [hg]; exact Nat.ne_of_gt (blk_lt (g := gb102) (o := .cells #[.bool a1_0, .int .u64 a1_1, .int .u64 a1_2] 24 (0, 0)) blk_) : gb118 ≠ gb102))
        have n12_ := Aside0.mk ((by rw [hg]; exact Nat.ne_of_lt (blk_lt (g := gb103) (o := .cells #[.bool a2_0, .int .u64 a2_1, .int .u64 a2_2] 24 (0, 0)) blk_) : gb103 ≠ gb118))
        have n13_ := Aside0.mk ((by rw [hg]; exact Nat.ne_of_gt (blk_lt (g := gb103) (o := .cells #[.bool a2_0, .int .u64 a2_1, .int .u64 a2_2] 24 (0, 0)) blk_) : gb118 ≠ gb103))
        have n14_ := Aside0.mk ((by rw [hg]; exact Nat.ne_of_lt (blk_lt (g := gb111) (o := .cells #[.bool t108, .int .u64 t109, .int .u64 t110] 24 (0, 0)) blk_) : gb111 ≠ gb118))
        have n15_ := Aside0.mk ((by rw [hg]; exact Nat.ne_of_gt (blk_lt (g := gb111) (o := .cells #[.bool t108, .int .u64 t109, .int .u64 t110] 24 (0, 0)) blk_) : gb118 ≠ gb111))
        clear BK101
        clear BK102
        clear BK103
        clear BK111
        clear HB
        have BK101 := n0_
        have BK102 := n1_
        have BK103 := n2_
        have BK111 := n3_
        have HB := n4_
        have BK118 := n5_
        have GW118 := n6_
        have GE118 := n7_
        have NB101_118 := n8_
        have NB118_101 := n9_
        have NB102_118 := n10_
        have NB118_102 := n11_
        have NB103_118 := n12_
        have NB118_103 := n13_
        have NB111_118 := n14_
        have NB118_111 := n15_
        clear n0_ n1_ n2_ n3_ n4_ n5_ n6_ n7_ n8_ n9_ n10_ n11_ n12_ n13_ n14_ n15_
        clear hb hbox hg
        refine hK.out _ _ ⟨(blk_cell BK102.out 0).trans rfl, (blk_cell BK102.out 1).trans rfl, (blk_cell BK102.out 2).trans rfl, (blk_cell BK103.out 0).trans rfl, (blk_cell BK103.out 1).trans rfl, (blk_cell BK103.out 2).trans rfl, (blk_cell BK101.out 0).trans rfl, (blk_cell BK101.out 1).trans rfl, (blk_cell BK101.out 2).trans rfl⟩ (fun hHeld => ?_)
        clear hK K
        refine norm_ (a' := ?_) ?_ ?_
        rotate_left
        · show Act.put _ (some 13) _ = _
          simp only [Act.put, List.setIfInBounds_toArray, List.set_cons_zero, List.set_cons_succ, i64_w, i32_w]
          rfl
        refine one_ (i := 4) (N := some 26) #[true, true, true, true, true, true, false] rfl rfl (by kernel_rfl) (by decide) (fun K hK => ?_)
        refine goes_ Try.func17 (by kernel_rfl) rfl #[.agg #[.bool a1_0, .int .u64 a1_1, .int .u64 a1_2], .agg #[.bool t112, .int .u64 t113, .int .u64 t114]] (by rfl) rfl rfl lna_ ?_
        with_reducible refine (curve_Add.calls a1_0 a1_1 a1_2 t112 t113 t114 t115 t116 t117 _ A10.out).mono ?_
        rintro e w30 ⟨rfl, hb⟩
        refine ⟨_, rfl, ?_⟩
        have n0_ := Aside0.mk (blk_below (g := gb101) (o := .cells #[.bool a0_0, .int .u64 a0_1, .int .u64 a0_2] 24 (0, 0)) blk_ hb)
        have n1_ := Aside0.mk (blk_below (g := gb102) (o := .cells #[.bool a1_0, .int .u64 a1_1, .int .u64 a1_2] 24 (0, 0)) blk_ hb)
        have n2_ := Aside0.mk (blk_below (g := gb103) (o := .cells #[.bool a2_0, .int .u64 a2_1, .int .u64 a2_2] 24 (0, 0)) blk_ hb)
        have n3_ := Aside0.mk (blk_below (g := gb111) (o := .cells #[.bool t108, .int .u64 t109, .int .u64 t110] 24 (0, 0)) blk_ hb)
        have n4_ := Aside0.mk (blk_below (g := gb118) (o := .cells #[.bool false, .int .u64 0, .int .u64 0] 24 (0, 0)) blk_ hb)
        have n5_ := Aside0.mk (below_step bel_ hb)
        clear BK101
        clear BK102
        clear BK103
        clear BK111
        clear BK118
        clear HB
        have BK101 := n0_
        have BK102 := n1_
        have BK103 := n2_
        have BK111 := n3_
        have BK118 := n4_
        have HB := n5_
        clear n0_ n1_ n2_ n3_ n4_ n5_
        (try clear hb)
        (try clear hb2)
        (try clear hk)
        (try clear hi)
        refine hK.out _ _ ⟨(blk_cell BK102.out 0).trans rfl, (blk_cell BK102.out 1).trans rfl, (blk_cell BK102.out 2).trans rfl, (blk_cell BK103.out 0).trans rfl, (blk_cell BK103.out 1).trans rfl, (blk_cell BK103.out 2).trans rfl, (blk_cell BK101.out 0).trans rfl, (blk_cell BK101.out 1).trans rfl, (blk_cell BK101.out 2).trans rfl⟩ (fun hHeld => ?_)
        clear hK K
        refine norm_ (a' := ?_) ?_ ?_
        rotate_left
        · show Act.put _ (some 26) _ = _
          simp only [Act.put, List.setIfInBounds_toArray, List.set_cons_zero, List.set_cons_succ, i64_w, i32_w]
          rfl
        exact norm_ (by simp only [putAll, Act.put, List.setIfInBounds_toArray, List.set_cons_zero, List.set_cons_succ]) (hCont (gb118) _ ⟨hHeld, blk_, blk_, blk_, blk_, blk_, GW118.out, GE118.out, NB101_118.out, NB118_101.out, NB102_118.out, NB118_102.out, NB103_118.out, NB118_103.out, NB111_118.out, NB118_111.out, bel_⟩)
    · skip
      refine box_step ?hg (N := 13) ?hd (cs := #[.bool false, .int .u64 0, .int .u64 0]) (t := 24) ?hr ?_; (case hd => rfl); (case hg => rfl); (case hr => first | (go_simp; done) | (go_simp; rfl))
      intro gb118 hg w28 hbox hb
      have n0_ := Aside0.mk (blk_below (g := gb101) (o := .cells #[.bool a0_0, .int .u64 a0_1, .int .u64 a0_2] 24 (0, 0)) blk_ hb)
      have n1_ := Aside0.mk (blk_below (g := gb102) (o := .cells #[.bool a1_0, .int .u64 a1_1, .int .u64 a1_2] 24 (0, 0)) blk_ hb)
      have n2_ := Aside0.mk (blk_below (g := gb103) (o := .cells #[.bool a2_0, .int .u64 a2_1, .int .u64 a2_2] 24 (0, 0)) blk_ hb)
      have n3_ := Aside0.mk (blk_below (g := gb111) (o := .cells #[.bool t108, .int .u64 t109, .int .u64 t110] 24 (0, 0)) blk_ hb)
      have n4_ := Aside0.mk (below_step bel_ hb)
      have n5_ := Aside0.mk (hbox)
      have n6_ := Aside0.mk ((by rw [hg]; exact (below_size bel_) : w.heap.size ≤ gb118))
      have n7_ := Aside0.mk ((by rw [hg]; exact (below_size bel_) : w.heap.size ≤ gb118))
      have n8_ := Aside0.mk ((by rw [hg]; exact Nat.ne_of_lt (blk_lt (g := gb101) (o := .cells #[.bool a0_0, .int .u64 a0_1, .int .u64 a0_2] 24 (0, 0)) blk_) : gb101 ≠ gb118))
      have n9_ := Aside0.mk ((by rw [hg]; exact Nat.ne_of_gt (blk_lt (g := gb101) (o := .cells #[.bool a0_0, .int .u64 a0_1, .int .u64 a0_2] 24 (0, 0)) blk_) : gb118 ≠ gb101))
      have n10_ := Aside0.mk ((by rw [hg]; exact Nat.ne_of_lt (blk_lt (g := gb102) (o := .cells #[.bool a1_0, .int .u64 a1_1, .int .u64 a1_2] 24 (0, 0)) blk_) : gb102 ≠ gb118))
      have n11_ := Aside0.mk ((by rw [hg]; exact Nat.ne_of_gt (blk_lt (g := gb102) (o := .cells #[.bool a1_0, .int .u64 a1_1, .int .u64 a1_2] 24 (0, 0)) blk_) : gb118 ≠ gb102))
      have n12_ := Aside0.mk ((by rw [hg]; exact Nat.ne_of_lt (blk_lt (g := gb103) (o := .cells #[.bool a2_0, .int .u64 a2_1, .int .u64 a2_2] 24 (0, 0)) blk_) : gb103 ≠ gb118))
      have n13_ := Aside0.mk ((by rw [hg]; exact Nat.ne_of_gt (blk_lt (g := gb103) (o := .cells #[.bool a2_0, .int .u64 a2_1, .int .u64 a2_2] 24 (0, 0)) blk_) : gb118 ≠ gb103))
      have n14_ := Aside0.mk ((by rw [hg]; exact Nat.ne_of_lt (blk_lt (g := gb111) (o := .cells #[.bool t108, .int .u64 t109, .int .u64 t110] 24 (0, 0)) blk_) : gb111 ≠ gb118))
      have n15_ := Aside0.mk ((by rw [hg]; exact Nat.ne_of_gt (blk_lt (g := gb111) (o := .cells #[.bool t108, .int .u64 t109, .int .u64 t110] 24 (0, 0)) blk_) : gb118 ≠ gb111))
      clear BK101
      clear BK102
      clear BK103
      clear BK111
      clear HB
      have BK101 := n0_
      have BK102 := n1_
      have BK103 := n2_
      have BK111 := n3_
      have HB := n4_
      have BK118 := n5_
      have GW118 := n6_
      have GE118 := n7_
      have NB101_118 := n8_
      have NB118_101 := n9_
      have NB102_118 := n10_
      have NB118_102 := n11_
      have NB103_118 := n12_
      have NB118_103 := n13_
      have NB111_118 := n14_
      have NB118_111 := n15_
      clear n0_ n1_ n2_ n3_ n4_ n5_ n6_ n7_ n8_ n9_ n10_ n11_ n12_ n13_ n14_ n15_
      clear hb hbox hg
      refine hK.out _ _ ⟨(blk_cell BK102.out 0).trans rfl, (blk_cell BK102.out 1).trans rfl, (blk_cell BK102.out 2).trans rfl, (blk_cell BK103.out 0).trans rfl, (blk_cell BK103.out 1).trans rfl, (blk_cell BK103.out 2).trans rfl, (blk_cell BK101.out 0).trans rfl, (blk_cell BK101.out 1).trans rfl, (blk_cell BK101.out 2).trans rfl⟩ (fun hHeld => ?_)
      clear hK K
      refine norm_ (a' := ?_) ?_ ?_
      rotate_left
      · show Act.put _ (some 13) _ = _
        simp only [Act.put, List.setIfInBounds_toArray, List.set_cons_zero, List.set_cons_succ, i64_w, i32_w]
        rfl
      refine one_ (i := 3) (N := some 25) #[true, true, true, true, false, true, false] rfl rfl (by kernel_rfl) (by decide) (fun K hK => ?_)
      refine goes_ Try.func17 (by kernel_rfl) rfl #[.agg #[.bool a2_0, .int .u64 a2_1, .int .u64 a2_2], .agg #[.bool a0_0, .int .u64 a0_1, .int .u64 a0_2]] (by rfl) rfl rfl lna_ ?_
      with_reducible refine (curve_Add.calls a2_0 a2_1 a2_2 a0_0 a0_1 a0_2 t112 t113 t114 _ A9.out).mono ?_
      rintro e w29 ⟨rfl, hb⟩
      refine ⟨_, rfl, ?_⟩
      have n0_ := Aside0.mk (blk_below (g := gb101) (o := .cells #[.bool a0_0, .int .u64 a0_1, .int .u64 a0_2] 24 (0, 0)) blk_ hb)
      have n1_ := Aside0.mk (blk_below (g := gb102) (o := .cells #[.bool a1_0, .int .u64 a1_1, .int .u64 a1_2] 24 (0, 0)) blk_ hb)
      have n2_ := Aside0.mk (blk_below (g := gb103) (o := .cells #[.bool a2_0, .int .u64 a2_1, .int .u64 a2_2] 24 (0, 0)) blk_ hb)
      have n3_ := Aside0.mk (blk_below (g := gb111) (o := .cells #[.bool t108, .int .u64 t109, .int .u64 t110] 24 (0, 0)) blk_ hb)
      have n4_ := Aside0.mk (blk_below (g := gb118) (o := .cells #[.bool false, .int .u64 0, .int .u64 0] 24 (0, 0)) blk_ hb)
      have n5_ := Aside0.mk (below_step bel_ hb)
      clear BK101
      clear BK102
      clear BK103
      clear BK111
      clear BK118
      clear HB
      have BK101 := n0_
      have BK102 := n1_
      have BK103 := n2_
      have BK111 := n3_
      have BK118 := n4_
      have HB := n5_
      clear n0_ n1_ n2_ n3_ n4_ n5_
      (try clear hb)
      (try clear hb2)
      (try clear hk)
      (try clear hi)
      refine hK.out _ _ ⟨(blk_cell BK102.out 0).trans rfl, (blk_cell BK102.out 1).trans rfl, (blk_cell BK102.out 2).trans rfl, (blk_cell BK103.out 0).trans rfl, (blk_cell BK103.out 1).trans rfl, (blk_cell BK103.out 2).trans rfl, (blk_cell BK101.out 0).trans rfl, (blk_cell BK101.out 1).trans rfl, (blk_cell BK101.out 2).trans rfl⟩ (fun hHeld => ?_)
      clear hK K
      refine norm_ (a' := ?_) ?_ ?_
      rotate_left
      · show Act.put _ (some 25) _ = _
        simp only [Act.put, List.setIfInBounds_toArray, List.set_cons_zero, List.set_cons_succ, i64_w, i32_w]
        rfl
      refine one_ (i := 4) (N := some 26) #[true, true, true, true, true, true, false] rfl rfl (by kernel_rfl) (by decide) (fun K hK => ?_)
      refine goes_ Try.func17 (by kernel_rfl) rfl #[.agg #[.bool a1_0, .int .u64 a1_1, .int .u64 a1_2], .agg #[.bool t112, .int .u64 t113, .int .u64 t114]] (by rfl) rfl rfl lna_ ?_
      with_reducible refine (curve_Add.calls a1_0 a1_1 a1_2 t112 t113 t114 t115 t116 t117 _ A10.out).mono ?_
      rintro e w30 ⟨rfl, hb⟩
      refine ⟨_, rfl, ?_⟩
      have n0_ := Aside0.mk (blk_below (g := gb101) (o := .cells #[.bool a0_0, .int .u64 a0_1, .int .u64 a0_2] 24 (0, 0)) blk_ hb)
      have n1_ := Aside0.mk (blk_below (g := gb102) (o := .cells #[.bool a1_0, .int .u64 a1_1, .int .u64 a1_2] 24 (0, 0)) blk_ hb)
      have n2_ := Aside0.mk (blk_below (g := gb103) (o := .cells #[.bool a2_0, .int .u64 a2_1, .int .u64 a2_2] 24 (0, 0)) blk_ hb)
      have n3_ := Aside0.mk (blk_below (g := gb111) (o := .cells #[.bool t108, .int .u64 t109, .int .u64 t110] 24 (0, 0)) blk_ hb)
      have n4_ := Aside0.mk (blk_below (g := gb118) (o := .cells #[.bool false, .int .u64 0, .int .u64 0] 24 (0, 0)) blk_ hb)
      have n5_ := Aside0.mk (below_step bel_ hb)
      clear BK101
      clear BK102
      clear BK103
      clear BK111
      clear BK118
      clear HB
      have BK101 := n0_
      have BK102 := n1_
      have BK103 := n2_
      have BK111 := n3_
      have BK118 := n4_
      have HB := n5_
      clear n0_ n1_ n2_ n3_ n4_ n5_
      (try clear hb)
      (try clear hb2)
      (try clear hk)
      (try clear hi)
      refine hK.out _ _ ⟨(blk_cell BK102.out 0).trans rfl, (blk_cell BK102.out 1).trans rfl, (blk_cell BK102.out 2).trans rfl, (blk_cell BK103.out 0).trans rfl, (blk_cell BK103.out 1).trans rfl, (blk_cell BK103.out 2).trans rfl, (blk_cell BK101.out 0).trans rfl, (blk_cell BK101.out 1).trans rfl, (blk_cell BK101.out 2).trans rfl⟩ (fun hHeld => ?_)
      clear hK K
      refine norm_ (a' := ?_) ?_ ?_
      rotate_left
      · show Act.put _ (some 26) _ = _
        simp only [Act.put, List.setIfInBounds_toArray, List.set_cons_zero, List.set_cons_succ, i64_w, i32_w]
        rfl
      exact norm_ (by simp only [putAll, Act.put, List.setIfInBounds_toArray, List.set_cons_zero, List.set_cons_succ]) (hCont (gb118) _ ⟨hHeld, blk_, blk_, blk_, blk_, blk_, GW118.out, GE118.out, NB101_118.out, NB118_101.out, NB102_118.out, NB118_102.out, NB103_118.out, NB118_103.out, NB111_118.out, NB118_111.out, bel_⟩)
  rintro gb118 w31 ⟨hS_, h0_, h1_, h2_, h3_, h4_, h5_, h6_, h7_, h8_, h9_, h10_, h11_, h12_, h13_, h14_, h15_⟩
  have n0_ : Aside0 (w31.heap[gb101]? = some (.cells #[.bool a0_0, .int .u64 a0_1, .int .u64 a0_2] 24 (0, 0))) := ⟨h0_⟩
  have n1_ : Aside0 (w31.heap[gb102]? = some (.cells #[.bool a1_0, .int .u64 a1_1, .int .u64 a1_2] 24 (0, 0))) := ⟨h1_⟩
  have n2_ : Aside0 (w31.heap[gb103]? = some (.cells #[.bool a2_0, .int .u64 a2_1, .int .u64 a2_2] 24 (0, 0))) := ⟨h2_⟩
  have n3_ : Aside0 (w31.heap[gb111]? = some (.cells #[.bool t108, .int .u64 t109, .int .u64 t110] 24 (0, 0))) := ⟨h3_⟩
  have n4_ : Aside0 (w31.heap[gb118]? = some (.cells #[.bool false, .int .u64 0, .int .u64 0] 24 (0, 0))) := ⟨h4_⟩
  have n5_ : Aside0 (w.heap.size ≤ gb118) := ⟨h5_⟩
  have n6_ : Aside0 (w.heap.size ≤ gb118) := ⟨h6_⟩
  have n7_ : Aside0 (gb101 ≠ gb118) := ⟨h7_⟩
  have n8_ : Aside0 (gb118 ≠ gb101) := ⟨h8_⟩
  have n9_ : Aside0 (gb102 ≠ gb118) := ⟨h9_⟩
  have n10_ : Aside0 (gb118 ≠ gb102) := ⟨h10_⟩
  have n11_ : Aside0 (gb103 ≠ gb118) := ⟨h11_⟩
  have n12_ : Aside0 (gb118 ≠ gb103) := ⟨h12_⟩
  have n13_ : Aside0 (gb111 ≠ gb118) := ⟨h13_⟩
  have n14_ : Aside0 (gb118 ≠ gb111) := ⟨h14_⟩
  have n15_ : Aside0 (Below w.heap.size w w31) := ⟨h15_⟩
  clear BK101
  clear BK102
  clear BK103
  clear BK111
  clear HB
  clear h0_ h1_ h2_ h3_ h4_ h5_ h6_ h7_ h8_ h9_ h10_ h11_ h12_ h13_ h14_ h15_
  have BK101 := n0_
  have BK102 := n1_
  have BK103 := n2_
  have BK111 := n3_
  have BK118 := n4_
  have GW118 := n5_
  have GE118 := n6_
  have NB101_118 := n7_
  have NB118_101 := n8_
  have NB102_118 := n9_
  have NB118_102 := n10_
  have NB103_118 := n11_
  have NB118_103 := n12_
  have NB111_118 := n13_
  have NB118_111 := n14_
  have HB := n15_
  clear n0_ n1_ n2_ n3_ n4_ n5_ n6_ n7_ n8_ n9_ n10_ n11_ n12_ n13_ n14_ n15_
  have hHeld : w31.cell? ⟨gb102, 0, none⟩ = some (.bool a1_0) ∧ w31.cell? ⟨gb102, 1, none⟩ = some (.int .u64 a1_1) ∧ w31.cell? ⟨gb102, 2, none⟩ = some (.int .u64 a1_2) ∧ w31.cell? ⟨gb103, 0, none⟩ = some (.bool a2_0) ∧ w31.cell? ⟨gb103, 1, none⟩ = some (.int .u64 a2_1) ∧ w31.cell? ⟨gb103, 2, none⟩ = some (.int .u64 a2_2) ∧ w31.cell? ⟨gb101, 0, none⟩ = some (.bool a0_0) ∧ w31.cell? ⟨gb101, 1, none⟩ = some (.int .u64 a0_1) ∧ w31.cell? ⟨gb101, 2, none⟩ = some (.int .u64 a0_2) := hS_
  refine norm_ (a' := ?_) ?_ ?_
  rotate_left
  · simp only [putAll, Act.put, List.setIfInBounds_toArray, List.set_cons_zero, List.set_cons_succ]
    rfl
  refine one_ (i := 6) (N := none) #[true, true, true, true, true, true, true] rfl rfl (by kernel_rfl) (by decide) (fun K hK => ?_)
  have hs32 : w31.cell? ⟨gb118, 0, none⟩ = some (.bool false) := (blk_cell BK118.out 0).trans rfl
  have hfs32 := blk_frozen BK118.out 0
  have hns32_0 := NB101_118.out
  have hns32_1 := NB102_118.out
  have hns32_2 := NB103_118.out
  have hns32_3 := NB111_118.out
  have hms32_0 := NB118_101.out
  have hms32_1 := NB118_102.out
  have hms32_2 := NB118_103.out
  have hms32_3 := NB118_111.out
  have hs33 : w31.cell? ⟨gb118, 1, none⟩ = some (.int .u64 0) := (blk_cell BK118.out 1).trans rfl
  have hfs33 := blk_frozen BK118.out 1
  have hns33_0 := NB101_118.out
  have hns33_1 := NB102_118.out
  have hns33_2 := NB103_118.out
  have hns33_3 := NB111_118.out
  have hms33_0 := NB118_101.out
  have hms33_1 := NB118_102.out
  have hms33_2 := NB118_103.out
  have hms33_3 := NB118_111.out
  have hs34 : w31.cell? ⟨gb118, 2, none⟩ = some (.int .u64 0) := (blk_cell BK118.out 2).trans rfl
  have hfs34 := blk_frozen BK118.out 2
  have hns34_0 := NB101_118.out
  have hns34_1 := NB102_118.out
  have hns34_2 := NB103_118.out
  have hns34_3 := NB111_118.out
  have hms34_0 := NB118_101.out
  have hms34_1 := NB118_102.out
  have hms34_2 := NB118_103.out
  have hms34_3 := NB118_111.out
  refine skip_ (w1 := ?_) (by rfl) rfl ?_ ?_
  rotate_left
  · go_simp
    rfl
  refine hK.out _ _ ⟨((cell_far (p := ⟨gb118, _, none⟩) NB102_118.out _).trans (((cell_far (p := ⟨gb118, _, none⟩) NB102_118.out _).trans (((cell_far (p := ⟨gb118, _, none⟩) NB102_118.out _).trans (hHeld.1)))))), ((cell_far (p := ⟨gb118, _, none⟩) NB102_118.out _).trans (((cell_far (p := ⟨gb118, _, none⟩) NB102_118.out _).trans (((cell_far (p := ⟨gb118, _, none⟩) NB102_118.out _).trans (hHeld.2.1)))))), ((cell_far (p := ⟨gb118, _, none⟩) NB102_118.out _).trans (((cell_far (p := ⟨gb118, _, none⟩) NB102_118.out _).trans (((cell_far (p := ⟨gb118, _, none⟩) NB102_118.out _).trans (hHeld.2.2.1)))))), ((cell_far (p := ⟨gb118, _, none⟩) NB103_118.out _).trans (((cell_far (p := ⟨gb118, _, none⟩) NB103_118.out _).trans (((cell_far (p := ⟨gb118, _, none⟩) NB103_118.out _).trans (hHeld.2.2.2.1)))))), ((cell_far (p := ⟨gb118, _, none⟩) NB103_118.out _).trans (((cell_far (p := ⟨gb118, _, none⟩) NB103_118.out _).trans (((cell_far (p := ⟨gb118, _, none⟩) NB103_118.out _).trans (hHeld.2.2.2.2.1)))))), ((cell_far (p := ⟨gb118, _, none⟩) NB103_118.out _).trans (((cell_far (p := ⟨gb118, _, none⟩) NB103_118.out _).trans (((cell_far (p := ⟨gb118, _, none⟩) NB103_118.out _).trans (hHeld.2.2.2.2.2.1)))))), ((cell_far (p := ⟨gb118, _, none⟩) NB101_118.out _).trans (((cell_far (p := ⟨gb118, _, none⟩) NB101_118.out _).trans (((cell_far (p := ⟨gb118, _, none⟩) NB101_118.out _).trans (hHeld.2.2.2.2.2.2.1)))))), ((cell_far (p := ⟨gb118, _, none⟩) NB101_118.out _).trans (((cell_far (p := ⟨gb118, _, none⟩) NB101_118.out _).trans (((cell_far (p := ⟨gb118, _, none⟩) NB101_118.out _).trans (hHeld.2.2.2.2.2.2.2.1)))))), ((cell_far (p := ⟨gb118, _, none⟩) NB101_118.out _).trans (((cell_far (p := ⟨gb118, _, none⟩) NB101_118.out _).trans (((cell_far (p := ⟨gb118, _, none⟩) NB101_118.out _).trans (hHeld.2.2.2.2.2.2.2.2))))))⟩ (fun hHeld => ?_)
  clear hK K
  refine done_ (by kernel_rfl) ?_
  have n0_ : Aside0 ((((w31.setCell ⟨gb118, 0, none⟩ (.bool t115)).setCell ⟨gb118, 1, none⟩ (.int .u64 t116)).setCell ⟨gb118, 2, none⟩ (.int .u64 t117)).heap[gb101]? = some (.cells #[.bool a0_0, .int .u64 a0_1, .int .u64 a0_2] 24 (0, 0))) := ⟨by (with_reducible repeat (first | refine blk_drewN ?_ _ | refine blk_drew ?_ | refine blk_alloc ?_ _)); refine blk_far ?_ NB101_118.out _; (with_reducible repeat (first | refine blk_drewN ?_ _ | refine blk_drew ?_ | refine blk_alloc ?_ _)); refine blk_far ?_ NB101_118.out _; (with_reducible repeat (first | refine blk_drewN ?_ _ | refine blk_drew ?_ | refine blk_alloc ?_ _)); refine blk_far ?_ NB101_118.out _; exact blk_⟩
  have n1_ : Aside0 ((((w31.setCell ⟨gb118, 0, none⟩ (.bool t115)).setCell ⟨gb118, 1, none⟩ (.int .u64 t116)).setCell ⟨gb118, 2, none⟩ (.int .u64 t117)).heap[gb102]? = some (.cells #[.bool a1_0, .int .u64 a1_1, .int .u64 a1_2] 24 (0, 0))) := ⟨by (with_reducible repeat (first | refine blk_drewN ?_ _ | refine blk_drew ?_ | refine blk_alloc ?_ _)); refine blk_far ?_ NB102_118.out _; (with_reducible repeat (first | refine blk_drewN ?_ _ | refine blk_drew ?_ | refine blk_alloc ?_ _)); refine blk_far ?_ NB102_118.out _; (with_reducible repeat (first | refine blk_drewN ?_ _ | refine blk_drew ?_ | refine blk_alloc ?_ _)); refine blk_far ?_ NB102_118.out _; exact blk_⟩
  have n2_ : Aside0 ((((w31.setCell ⟨gb118, 0, none⟩ (.bool t115)).setCell ⟨gb118, 1, none⟩ (.int .u64 t116)).setCell ⟨gb118, 2, none⟩ (.int .u64 t117)).heap[gb103]? = some (.cells #[.bool a2_0, .int .u64 a2_1, .int .u64 a2_2] 24 (0, 0))) := ⟨by (with_reducible repeat (first | refine blk_drewN ?_ _ | refine blk_drew ?_ | refine blk_alloc ?_ _)); refine blk_far ?_ NB103_118.out _; (with_reducible repeat (first | refine blk_drewN ?_ _ | refine blk_drew ?_ | refine blk_alloc ?_ _)); refine blk_far ?_ NB103_118.out _; (with_reducible repeat (first | refine blk_drewN ?_ _ | refine blk_drew ?_ | refine blk_alloc ?_ _)); refine blk_far ?_ NB103_118.out _; exact blk_⟩
  have n3_ : Aside0 ((((w31.setCell ⟨gb118, 0, none⟩ (.bool t115)).setCell ⟨gb118, 1, none⟩ (.int .u64 t116)).setCell ⟨gb118, 2, none⟩ (.int .u64 t117)).heap[gb111]? = some (.cells #[.bool t108, .int .u64 t109, .int .u64 t110] 24 (0, 0))) := ⟨by (with_reducible repeat (first | refine blk_drewN ?_ _ | refine blk_drew ?_ | refine blk_alloc ?_ _)); refine blk_far ?_ NB111_118.out _; (with_reducible repeat (first | refine blk_drewN ?_ _ | refine blk_drew ?_ | refine blk_alloc ?_ _)); refine blk_far ?_ NB111_118.out _; (with_reducible repeat (first | refine blk_drewN ?_ _ | refine blk_drew ?_ | refine blk_alloc ?_ _)); refine blk_far ?_ NB111_118.out _; exact blk_⟩
  have n4_ : Aside0 ((((w31.setCell ⟨gb118, 0, none⟩ (.bool t115)).setCell ⟨gb118, 1, none⟩ (.int .u64 t116)).setCell ⟨gb118, 2, none⟩ (.int .u64 t117)).heap[gb118]? = some (.cells #[.bool t115, .int .u64 t116, .int .u64 t117] 24 (0, 0))) := ⟨by (with_reducible repeat (first | refine blk_drewN ?_ _ | refine blk_drew ?_ | refine blk_alloc ?_ _)); refine blk_put (cs := #[.bool t115, .int .u64 t116, .int .u64 0]) ?_ 2 _ rfl; (with_reducible repeat (first | refine blk_drewN ?_ _ | refine blk_drew ?_ | refine blk_alloc ?_ _)); refine blk_put (cs := #[.bool t115, .int .u64 0, .int .u64 0]) ?_ 1 _ rfl; (with_reducible repeat (first | refine blk_drewN ?_ _ | refine blk_drew ?_ | refine blk_alloc ?_ _)); refine blk_put (cs := #[.bool false, .int .u64 0, .int .u64 0]) ?_ 0 _ rfl; exact blk_⟩
  have n5_ : Aside0 (Below w.heap.size w (((w31.setCell ⟨gb118, 0, none⟩ (.bool t115)).setCell ⟨gb118, 1, none⟩ (.int .u64 t116)).setCell ⟨gb118, 2, none⟩ (.int .u64 t117))) := ⟨bel_⟩
  (try clear BK101)
  (try clear BK102)
  (try clear BK103)
  (try clear BK111)
  (try clear BK118)
  (try clear HB)
  generalize (((w31.setCell ⟨gb118, 0, none⟩ (.bool t115)).setCell ⟨gb118, 1, none⟩ (.int .u64 t116)).setCell ⟨gb118, 2, none⟩ (.int .u64 t117)) = w35 at n0_ n1_ n2_ n3_ n4_ n5_ ⊢
  have BK101 := n0_
  have BK102 := n1_
  have BK103 := n2_
  have BK111 := n3_
  have BK118 := n4_
  have HB := n5_
  clear n0_ n1_ n2_ n3_ n4_ n5_
  have hnb36 := NB101_102.out
  have hnc36 := NB102_101.out
  have hnb37 := NB101_103.out
  have hnc37 := NB103_101.out
  have hnb38 := NB101_111.out
  have hnc38 := NB111_101.out
  have hnb39 := NB101_118.out
  have hnc39 := NB118_101.out
  have hcz40_0 : w35.cell? ⟨gb101, 0, none⟩ = some (.bool a0_0) := (blk_cell BK101.out 0).trans rfl
  have hcz40_1 : w35.cell? ⟨gb101, 1, none⟩ = some (.int .u64 a0_1) := (blk_cell BK101.out 1).trans rfl
  have hcz40_2 : w35.cell? ⟨gb101, 2, none⟩ = some (.int .u64 a0_2) := (blk_cell BK101.out 2).trans rfl
  have hfz40_0 := blk_frozen BK101.out 0
  have hfz40_1 := blk_frozen BK101.out 1
  have hfz40_2 := blk_frozen BK101.out 2
  go_upto_region 5 with (first | ((with_reducible refine gate_callee (f := 21) rfl ?_); refine goesL_ (some 28) rfl rfl Try.func21 (by kernel_rfl) rfl #[.agg #[.bool a0_0, .int .u64 a0_1, .int .u64 a0_2], .int .u64 288230376287764481] rfl lna_ ?_; (with_reducible refine (curve_Mul.calls a0_0 a0_1 a0_2 288230376287764481 t119 t120 t121 _ A11.out).mono ?_); rintro e w41 ⟨rfl, hb⟩; refine ⟨_, rfl, ?_⟩; have n0_ := Aside0.mk (blk_below (g := gb101) (o := .cells #[.bool a0_0, .int .u64 a0_1, .int .u64 a0_2] 24 (0, 0)) blk_ hb); have n1_ := Aside0.mk (blk_below (g := gb102) (o := .cells #[.bool a1_0, .int .u64 a1_1, .int .u64 a1_2] 24 (0, 0)) blk_ hb); have n2_ := Aside0.mk (blk_below (g := gb103) (o := .cells #[.bool a2_0, .int .u64 a2_1, .int .u64 a2_2] 24 (0, 0)) blk_ hb); have n3_ := Aside0.mk (blk_below (g := gb111) (o := .cells #[.bool t108, .int .u64 t109, .int .u64 t110] 24 (0, 0)) blk_ hb); have n4_ := Aside0.mk (blk_below (g := gb118) (o := .cells #[.bool t115, .int .u64 t116, .int .u64 t117] 24 (0, 0)) blk_ hb); have n5_ := Aside0.mk (below_step bel_ hb); clear BK101; clear BK102; clear BK103; clear BK111; clear BK118; clear HB; have BK101 := n0_; have BK102 := n1_; have BK103 := n2_; have BK111 := n3_; have BK118 := n4_; have HB := n5_; clear n0_ n1_ n2_ n3_ n4_ n5_; (try clear hb); (try clear hb2); (try clear hk); (try clear hi)) | ((with_reducible refine gate_callee (f := 21) rfl ?_); refine goesL_ (some 29) rfl rfl Try.func21 (by kernel_rfl) rfl #[.agg #[.bool t119, .int .u64 t120, .int .u64 t121], .int .u64 4] rfl lna_ ?_; (with_reducible refine (curve_Mul.calls t119 t120 t121 4 t122 t123 t124 _ A12.out).mono ?_); rintro e w42 ⟨rfl, hb⟩; refine ⟨_, rfl, ?_⟩; have n0_ := Aside0.mk (blk_below (g := gb101) (o := .cells #[.bool a0_0, .int .u64 a0_1, .int .u64 a0_2] 24 (0, 0)) blk_ hb); have n1_ := Aside0.mk (blk_below (g := gb102) (o := .cells #[.bool a1_0, .int .u64 a1_1, .int .u64 a1_2] 24 (0, 0)) blk_ hb); have n2_ := Aside0.mk (blk_below (g := gb103) (o := .cells #[.bool a2_0, .int .u64 a2_1, .int .u64 a2_2] 24 (0, 0)) blk_ hb); have n3_ := Aside0.mk (blk_below (g := gb111) (o := .cells #[.bool t108, .int .u64 t109, .int .u64 t110] 24 (0, 0)) blk_ hb); have n4_ := Aside0.mk (blk_below (g := gb118) (o := .cells #[.bool t115, .int .u64 t116, .int .u64 t117] 24 (0, 0)) blk_ hb); have n5_ := Aside0.mk (below_step bel_ hb); clear BK101; clear BK102; clear BK103; clear BK111; clear BK118; clear HB; have BK101 := n0_; have BK102 := n1_; have BK103 := n2_; have BK111 := n3_; have BK118 := n4_; have HB := n5_; clear n0_ n1_ n2_ n3_ n4_ n5_; (try clear hb); (try clear hb2); (try clear hk); (try clear hi)) | ((with_reducible refine gate_dst (N := 14) rfl ?_); refine box_event ?hg (N := 14) ?hd (cs := #[.bool false, .int .u64 0, .int .u64 0]) (t := 24) ?hr ?_; (case hd => rfl); (case hg => rfl); (case hr => first | (go_simp; done) | (go_simp; rfl)); intro gb125 hg w43 hbox hb; have n0_ := Aside0.mk (blk_below (g := gb101) (o := .cells #[.bool a0_0, .int .u64 a0_1, .int .u64 a0_2] 24 (0, 0)) blk_ hb); have n1_ := Aside0.mk (blk_below (g := gb102) (o := .cells #[.bool a1_0, .int .u64 a1_1, .int .u64 a1_2] 24 (0, 0)) blk_ hb); have n2_ := Aside0.mk (blk_below (g := gb103) (o := .cells #[.bool a2_0, .int .u64 a2_1, .int .u64 a2_2] 24 (0, 0)) blk_ hb); have n3_ := Aside0.mk (blk_below (g := gb111) (o := .cells #[.bool t108, .int .u64 t109, .int .u64 t110] 24 (0, 0)) blk_ hb); have n4_ := Aside0.mk (blk_below (g := gb118) (o := .cells #[.bool t115, .int .u64 t116, .int .u64 t117] 24 (0, 0)) blk_ hb); have n5_ := Aside0.mk (below_step bel_ hb); have n6_ := Aside0.mk (hbox); have n7_ := Aside0.mk ((by rw [hg]; exact (below_size bel_) : w.heap.size ≤ gb125)); have n8_ := Aside0.mk ((by rw [hg]; exact (below_size bel_) : w.heap.size ≤ gb125)); have n9_ := Aside0.mk ((by rw [hg]; exact Nat.ne_of_lt (blk_lt (g := gb101) (o := .cells #[.bool a0_0, .int .u64 a0_1, .int .u64 a0_2] 24 (0, 0)) blk_) : gb101 ≠ gb125)); have n10_ := Aside0.mk ((by rw [hg]; exact Nat.ne_of_gt (blk_lt (g := gb101) (o := .cells #[.bool a0_0, .int .u64 a0_1, .int .u64 a0_2] 24 (0, 0)) blk_) : gb125 ≠ gb101)); have n11_ := Aside0.mk ((by rw [hg]; exact Nat.ne_of_lt (blk_lt (g := gb102) (o := .cells #[.bool a1_0, .int .u64 a1_1, .int .u64 a1_2] 24 (0, 0)) blk_) : gb102 ≠ gb125)); have n12_ := Aside0.mk ((by rw [hg]; exact Nat.ne_of_gt (blk_lt (g := gb102) (o := .cells #[.bool a1_0, .int .u64 a1_1, .int .u64 a1_2] 24 (0, 0)) blk_) : gb125 ≠ gb102)); have n13_ := Aside0.mk ((by rw [hg]; exact Nat.ne_of_lt (blk_lt (g := gb103) (o := .cells #[.bool a2_0, .int .u64 a2_1, .int .u64 a2_2] 24 (0, 0)) blk_) : gb103 ≠ gb125)); have n14_ := Aside0.mk ((by rw [hg]; exact Nat.ne_of_gt (blk_lt (g := gb103) (o := .cells #[.bool a2_0, .int .u64 a2_1, .int .u64 a2_2] 24 (0, 0)) blk_) : gb125 ≠ gb103)); have n15_ := Aside0.mk ((by rw [hg]; exact Nat.ne_of_lt (blk_lt (g := gb111) (o := .cells #[.bool t108, .int .u64 t109, .int .u64 t110] 24 (0, 0)) blk_) : gb111 ≠ gb125)); have n16_ := Aside0.mk ((by rw [hg]; exact Nat.ne_of_gt (blk_lt (g := gb111) (o := .cells #[.bool t108, .int .u64 t109, .int .u64 t110] 24 (0, 0)) blk_) : gb125 ≠ gb111)); have n17_ := Aside0.mk ((by rw [hg]; exact Nat.ne_of_lt (blk_lt (g := gb118) (o := .cells #[.bool t115, .int .u64 t116, .int .u64 t117] 24 (0, 0)) blk_) : gb118 ≠ gb125)); have n18_ := Aside0.mk ((by rw [hg]; exact Nat.ne_of_gt (blk_lt (g := gb118) (o := .cells #[.bool t115, .int .u64 t116, .int .u64 t117] 24 (0, 0)) blk_) : gb125 ≠ gb118)); clear BK101; clear BK102; clear BK103; clear BK111; clear BK118; clear HB; have BK101 := n0_; have BK102 := n1_; have BK103 := n2_; have BK111 := n3_; have BK118 := n4_; have HB := n5_; have BK125 := n6_; have GW125 := n7_; have GE125 := n8_; have NB101_125 := n9_; have NB125_101 := n10_; have NB102_125 := n11_; have NB125_102 := n12_; have NB103_125 := n13_; have NB125_103 := n14_; have NB111_125 := n15_; have NB125_111 := n16_; have NB118_125 := n17_; have NB125_118 := n18_; clear n0_ n1_ n2_ n3_ n4_ n5_ n6_ n7_ n8_ n9_ n10_ n11_ n12_ n13_ n14_ n15_ n16_ n17_ n18_; clear hb hbox hg; have hnb44 := NB125_101.out; have hnc44 := NB101_125.out; have hnb45 := NB125_102.out; have hnc45 := NB102_125.out; have hnb46 := NB125_103.out; have hnc46 := NB103_125.out; have hnb47 := NB125_111.out; have hnc47 := NB111_125.out; have hnb48 := NB125_118.out; have hnc48 := NB118_125.out; have hcz49_0 : w43.cell? ⟨gb125, 0, none⟩ = some (.bool false) := (blk_cell BK125.out 0).trans rfl; have hcz49_1 : w43.cell? ⟨gb125, 1, none⟩ = some (.int .u64 0) := (blk_cell BK125.out 1).trans rfl; have hcz49_2 : w43.cell? ⟨gb125, 2, none⟩ = some (.int .u64 0) := (blk_cell BK125.out 2).trans rfl; have hfz49_0 := blk_frozen BK125.out 0; have hfz49_1 := blk_frozen BK125.out 1; have hfz49_2 := blk_frozen BK125.out 2))
  (try simp only [Act.put, List.setIfInBounds_toArray, List.set_cons_zero, List.set_cons_succ])
  go_cut [35] (fun v35 wc => ∃ (kq : Nat) (x35_12 : Bool), v35 = .bool x35_12 ∧ Aside0 (obollaw03_CurveGroup.j0 kq a3 a4 t104 x35_12 a0_0 a0_1 a0_2 a1_0 a1_1 a1_2 t108 t109 t110 t115 t116 t117 t122 t123 t124 = some r) ∧ Aside0 (kq ≤ k) ∧ Aside0 (wc.heap[gb101]? = some (.cells #[.bool a0_0, .int .u64 a0_1, .int .u64 a0_2] 24 (0, 0))) ∧ Aside0 (wc.heap[gb102]? = some (.cells #[.bool a1_0, .int .u64 a1_1, .int .u64 a1_2] 24 (0, 0))) ∧ Aside0 (wc.heap[gb103]? = some (.cells #[.bool a2_0, .int .u64 a2_1, .int .u64 a2_2] 24 (0, 0))) ∧ Aside0 (wc.heap[gb111]? = some (.cells #[.bool t108, .int .u64 t109, .int .u64 t110] 24 (0, 0))) ∧ Aside0 (wc.heap[gb118]? = some (.cells #[.bool t115, .int .u64 t116, .int .u64 t117] 24 (0, 0))) ∧ Aside0 (wc.heap[gb125]? = some (.cells #[.bool t122, .int .u64 t123, .int .u64 t124] 24 (0, 0))) ∧ Aside0 (Below w.heap.size w wc))
  case first =>
    have H := HC13.out
    clear HC13
    by_cases c50 : a3 > 4611686018427387904
    · rw [if_pos c50] at H
      have c50b0 : decide (4611686018427387904 < a3) = true := decide_eq_true c50
      clear c50
      (first | rw [c50b0] | (simp only [i64_w, i32_w]; rw [c50b0]) | skip)
      have H' := Aside0.mk H
      clear H
      go_wp2
      go_meet
      case rel => exact ⟨_, (true), (by first | rfl | (simp; done) | (simp [*]; done)), H', ⟨by first | omega | exact Nat.le_refl _⟩, ⟨by (with_reducible repeat (first | refine blk_drewN ?_ _ | refine blk_drew ?_ | refine blk_alloc ?_ _)); refine blk_far ?_ NB101_125.out _; (with_reducible repeat (first | refine blk_drewN ?_ _ | refine blk_drew ?_ | refine blk_alloc ?_ _)); refine blk_far ?_ NB101_125.out _; (with_reducible repeat (first | refine blk_drewN ?_ _ | refine blk_drew ?_ | refine blk_alloc ?_ _)); refine blk_far ?_ NB101_125.out _; exact blk_⟩, ⟨by (with_reducible repeat (first | refine blk_drewN ?_ _ | refine blk_drew ?_ | refine blk_alloc ?_ _)); refine blk_far ?_ NB102_125.out _; (with_reducible repeat (first | refine blk_drewN ?_ _ | refine blk_drew ?_ | refine blk_alloc ?_ _)); refine blk_far ?_ NB102_125.out _; (with_reducible repeat (first | refine blk_drewN ?_ _ | refine blk_drew ?_ | refine blk_alloc ?_ _)); refine blk_far ?_ NB102_125.out _; exact blk_⟩, ⟨by (with_reducible repeat (first | refine blk_drewN ?_ _ | refine blk_drew ?_ | refine blk_alloc ?_ _)); refine blk_far ?_ NB103_125.out _; (with_reducible repeat (first | refine blk_drewN ?_ _ | refine blk_drew ?_ | refine blk_alloc ?_ _)); refine blk_far ?_ NB103_125.out _; (with_reducible repeat (first | refine blk_drewN ?_ _ | refine blk_drew ?_ | refine blk_alloc ?_ _)); refine blk_far ?_ NB103_125.out _; exact blk_⟩, ⟨by (with_reducible repeat (first | refine blk_drewN ?_ _ | refine blk_drew ?_ | refine blk_alloc ?_ _)); refine blk_far ?_ NB111_125.out _; (with_reducible repeat (first | refine blk_drewN ?_ _ | refine blk_drew ?_ | refine blk_alloc ?_ _)); refine blk_far ?_ NB111_125.out _; (with_reducible repeat (first | refine blk_drewN ?_ _ | refine blk_drew ?_ | refine blk_alloc ?_ _)); refine blk_far ?_ NB111_125.out _; exact blk_⟩, ⟨by (with_reducible repeat (first | refine blk_drewN ?_ _ | refine blk_drew ?_ | refine blk_alloc ?_ _)); refine blk_far ?_ NB118_125.out _; (with_reducible repeat (first | refine blk_drewN ?_ _ | refine blk_drew ?_ | refine blk_alloc ?_ _)); refine blk_far ?_ NB118_125.out _; (with_reducible repeat (first | refine blk_drewN ?_ _ | refine blk_drew ?_ | refine blk_alloc ?_ _)); refine blk_far ?_ NB118_125.out _; exact blk_⟩, ⟨by (with_reducible repeat (first | refine blk_drewN ?_ _ | refine blk_drew ?_ | refine blk_alloc ?_ _)); refine blk_put (cs := #[.bool t122, .int .u64 t123, .int .u64 0]) ?_ 2 _ rfl; (with_reducible repeat (first | refine blk_drewN ?_ _ | refine blk_drew ?_ | refine blk_alloc ?_ _)); refine blk_put (cs := #[.bool t122, .int .u64 0, .int .u64 0]) ?_ 1 _ rfl; (with_reducible repeat (first | refine blk_drewN ?_ _ | refine blk_drew ?_ | refine blk_alloc ?_ _)); refine blk_put (cs := #[.bool false, .int .u64 0, .int .u64 0]) ?_ 0 _ rfl; exact blk_⟩, ⟨bel_⟩⟩
    · rw [if_neg c50] at H
      have c50b0 : decide (4611686018427387904 < a3) = false := decide_eq_false c50
      clear c50
      (first | rw [c50b0] | (simp only [i64_w, i32_w]; rw [c50b0]) | skip)
      have H' := Aside0.mk H
      clear H
      go_wp2
      go_meet
      case rel => exact ⟨_, (decide (a4 > 4611686018427387904)), (by first | rfl | (simp; done) | (simp [*]; done)), H', ⟨by first | omega | exact Nat.le_refl _⟩, ⟨by (with_reducible repeat (first | refine blk_drewN ?_ _ | refine blk_drew ?_ | refine blk_alloc ?_ _)); refine blk_far ?_ NB101_125.out _; (with_reducible repeat (first | refine blk_drewN ?_ _ | refine blk_drew ?_ | refine blk_alloc ?_ _)); refine blk_far ?_ NB101_125.out _; (with_reducible repeat (first | refine blk_drewN ?_ _ | refine blk_drew ?_ | refine blk_alloc ?_ _)); refine blk_far ?_ NB101_125.out _; exact blk_⟩, ⟨by (with_reducible repeat (first | refine blk_drewN ?_ _ | refine blk_drew ?_ | refine blk_alloc ?_ _)); refine blk_far ?_ NB102_125.out _; (with_reducible repeat (first | refine blk_drewN ?_ _ | refine blk_drew ?_ | refine blk_alloc ?_ _)); refine blk_far ?_ NB102_125.out _; (with_reducible repeat (first | refine blk_drewN ?_ _ | refine blk_drew ?_ | refine blk_alloc ?_ _)); refine blk_far ?_ NB102_125.out _; exact blk_⟩, ⟨by (with_reducible repeat (first | refine blk_drewN ?_ _ | refine blk_drew ?_ | refine blk_alloc ?_ _)); refine blk_far ?_ NB103_125.out _; (with_reducible repeat (first | refine blk_drewN ?_ _ | refine blk_drew ?_ | refine blk_alloc ?_ _)); refine blk_far ?_ NB103_125.out _; (with_reducible repeat (first | refine blk_drewN ?_ _ | refine blk_drew ?_ | refine blk_alloc ?_ _)); refine blk_far ?_ NB103_125.out _; exact blk_⟩, ⟨by (with_reducible repeat (first | refine blk_drewN ?_ _ | refine blk_drew ?_ | refine blk_alloc ?_ _)); refine blk_far ?_ NB111_125.out _; (with_reducible repeat (first | refine blk_drewN ?_ _ | refine blk_drew ?_ | refine blk_alloc ?_ _)); refine blk_far ?_ NB111_125.out _; (with_reducible repeat (first | refine blk_drewN ?_ _ | refine blk_drew ?_ | refine blk_alloc ?_ _)); refine blk_far ?_ NB111_125.out _; exact blk_⟩, ⟨by (with_reducible repeat (first | refine blk_drewN ?_ _ | refine blk_drew ?_ | refine blk_alloc ?_ _)); refine blk_far ?_ NB118_125.out _; (with_reducible repeat (first | refine blk_drewN ?_ _ | refine blk_drew ?_ | refine blk_alloc ?_ _)); refine blk_far ?_ NB118_125.out _; (with_reducible repeat (first | refine blk_drewN ?_ _ | refine blk_drew ?_ | refine blk_alloc ?_ _)); refine blk_far ?_ NB118_125.out _; exact blk_⟩, ⟨by (with_reducible repeat (first | refine blk_drewN ?_ _ | refine blk_drew ?_ | refine blk_alloc ?_ _)); refine blk_put (cs := #[.bool t122, .int .u64 t123, .int .u64 0]) ?_ 2 _ rfl; (with_reducible repeat (first | refine blk_drewN ?_ _ | refine blk_drew ?_ | refine blk_alloc ?_ _)); refine blk_put (cs := #[.bool t122, .int .u64 0, .int .u64 0]) ?_ 1 _ rfl; (with_reducible repeat (first | refine blk_drewN ?_ _ | refine blk_drew ?_ | refine blk_alloc ?_ _)); refine blk_put (cs := #[.bool false, .int .u64 0, .int .u64 0]) ?_ 0 _ rfl; exact blk_⟩, ⟨bel_⟩⟩
  case rest =>
    clear HC13
    try clear c1
    try clear c2
    try clear p2
    try clear c3
    try clear c4
    try clear c5
    try clear c17
    try clear c21
    try clear c36
    try clear c37
    try clear c38
    try clear c39
    try clear c44
    try clear c45
    try clear c46
    try clear c47
    try clear c48
    try clear c50
    try clear c50b0
    try clear hcz40_0
    try clear hcz40_1
    try clear hcz40_2
    try clear hcz49_0
    try clear hcz49_1
    try clear hcz49_2
    try clear hfz40_0
    try clear hfz40_1
    try clear hfz40_2
    try clear hfz49_0
    try clear hfz49_1
    try clear hfz49_2
    obtain ⟨kq, x35_12, rfl, HA, HJ12, BK101, BK102, BK103, BK111, BK118, BK125, HB⟩ := hcut
    cases kq with
    | zero => exact absurd HA.out (by simp [obollaw03_CurveGroup.j0])
    | succ kj12 =>
      have H := HA.out
      clear HA
      simp only [obollaw03_CurveGroup.j0] at H
      by_cases c51 : x35_12 = true
      · subst c51
        have H1 : (if t104 = true then (if (t108 == t115 && (t109 == t116 && (t110 == t117))) = true then (some t122) else (some false)) else (some false)) = some r := by rw [if_pos rfl] at H; exact H
        clear H
        have H := H1
        clear H1
        by_cases c52 : t104 = true
        · subst c52
          have H1 : (if (t108 == t115 && (t109 == t116 && (t110 == t117))) = true then (some t122) else (some false)) = some r := by rw [if_pos rfl] at H; exact H
          clear H
          have H := H1
          clear H1
          by_cases c53 : (t108 == t115 && (t109 == t116 && (t110 == t117))) = true
          · rw [if_pos c53] at H
            have c53b0 : (t108 == t115 && (t109 == t116 && (t110 == t117))) = true := c53
            (try (have c53b1 : decide (t108 = t115 && (t109 == t116 && (t110 == t117))) = true := by simpa using c53))
            (try (have c53b2 : (t108 == t115 && (t109 == t116 && (t110 == t117))) = true := by simpa using c53))
            clear c53
            obtain rfl := Option.some.inj H
            have hnb54 := NB111_101.out
            have hnc54 := NB101_111.out
            have hnb55 := NB111_102.out
            have hnc55 := NB102_111.out
            have hnb56 := NB111_103.out
            have hnc56 := NB103_111.out
            have hnb57 := NB111_118.out
            have hnc57 := NB118_111.out
            have hnb58 := NB111_125.out
            have hnc58 := NB125_111.out
            have hcz59_0 : wc.cell? ⟨gb111, 0, none⟩ = some (.bool t108) := (blk_cell BK111.out 0).trans rfl
            have hcz59_1 : wc.cell? ⟨gb111, 1, none⟩ = some (.int .u64 t109) := (blk_cell BK111.out 1).trans rfl
            have hcz59_2 : wc.cell? ⟨gb111, 2, none⟩ = some (.int .u64 t110) := (blk_cell BK111.out 2).trans rfl
            have hfz59_0 := blk_frozen BK111.out 0
            have hfz59_1 := blk_frozen BK111.out 1
            have hfz59_2 := blk_frozen BK111.out 2
            have hnb60 := NB118_101.out
            have hnc60 := NB101_118.out
            have hnb61 := NB118_102.out
            have hnc61 := NB102_118.out
            have hnb62 := NB118_103.out
            have hnc62 := NB103_118.out
            have hnb63 := NB118_125.out
            have hnc63 := NB125_118.out
            have hcz64_0 : wc.cell? ⟨gb118, 0, none⟩ = some (.bool t115) := (blk_cell BK118.out 0).trans rfl
            have hcz64_1 : wc.cell? ⟨gb118, 1, none⟩ = some (.int .u64 t116) := (blk_cell BK118.out 1).trans rfl
            have hcz64_2 : wc.cell? ⟨gb118, 2, none⟩ = some (.int .u64 t117) := (blk_cell BK118.out 2).trans rfl
            have hfz64_0 := blk_frozen BK118.out 0
            have hfz64_1 := blk_frozen BK118.out 1
            have hfz64_2 := blk_frozen BK118.out 2
            have hnb65 := NB125_101.out
            have hnc65 := NB101_125.out
            have hnb66 := NB125_102.out
            have hnc66 := NB102_125.out
            have hnb67 := NB125_103.out
            have hnc67 := NB103_125.out
            have hcz68_0 : wc.cell? ⟨gb125, 0, none⟩ = some (.bool t122) := (blk_cell BK125.out 0).trans rfl
            have hcz68_1 : wc.cell? ⟨gb125, 1, none⟩ = some (.int .u64 t123) := (blk_cell BK125.out 1).trans rfl
            have hcz68_2 : wc.cell? ⟨gb125, 2, none⟩ = some (.int .u64 t124) := (blk_cell BK125.out 2).trans rfl
            have hfz68_0 := blk_frozen BK125.out 0
            have hfz68_1 := blk_frozen BK125.out 1
            have hfz68_2 := blk_frozen BK125.out 2
            go_wp2
            go_ret
            exact ⟨by first | rfl | (simp [errW_none, errW_some] <;> rfl) | (simp [*, errW_none, errW_some] <;> rfl), bel_⟩
          · rw [if_neg c53] at H
            have c53b0 : (t108 == t115 && (t109 == t116 && (t110 == t117))) = false := by simpa using c53
            (try (have c53b1 : decide (t108 = t115 && (t109 == t116 && (t110 == t117))) = false := by simpa using c53))
            (try (have c53b2 : (t108 == t115 && (t109 == t116 && (t110 == t117))) = false := by simpa using c53))
            (try (have c53b3 : ¬ (t108 = t115 && (t109 == t116 && (t110 == t117))) := by simpa using c53))
            clear c53
            exact absurd (Option.some.inj H) (by rw [HRT.out]; decide)
        · replace c52 := Bool.eq_false_iff.mpr c52
          subst c52
          have H1 : (some false) = some r := by rw [if_neg (show ¬ (false = true) by decide)] at H; exact H
          clear H
          have H := H1
          clear H1
          exact absurd (Option.some.inj H) (by rw [HRT.out]; decide)
      · replace c51 := Bool.eq_false_iff.mpr c51
        subst c51
        have H1 : ((curve_Mul.f a0_0 a0_1 a0_2 a3).bind fun bt126 => ((curve_Mul.f a0_0 a0_1 a0_2 a4).bind fun bt129 => ((curve_Add.f bt126.1 bt126.2.1 bt126.2.2 bt129.1 bt129.2.1 bt129.2.2).bind fun bt132 => (if t104 = true then (if (t108 == t115 && (t109 == t116 && (t110 == t117))) = true then (if t122 = true then ((curve_Mul.f a0_0 a0_1 a0_2 (IntKind.u64.wrap (a3 + a4))).bind fun bt136 => (if (bt132.1 == bt136.1 && (bt132.2.1 == bt136.2.1 && (bt132.2.2 == bt136.2.2))) = true then ((curve_Add.f a0_0 a0_1 a0_2 a1_0 a1_1 a1_2).bind fun bt139 => ((curve_Add.f a1_0 a1_1 a1_2 a0_0 a0_1 a0_2).bind fun bt142 => (some (bt139.1 == bt142.1 && (bt139.2.1 == bt142.2.1 && (bt139.2.2 == bt142.2.2)))))) else (some false))) else (some false)) else (some false)) else (some false))))) = some r := by rw [if_neg (show ¬ (false = true) by decide)] at H; exact H
        clear H
        have H := H1
        clear H1
        replace H := Option.bind_eq_some_iff.mp H
        obtain ⟨⟨t126, t127, t128⟩, A690, H⟩ := H
        (try dsimp only at H)
        have A69 := Aside0.mk A690
        clear A690
        replace H := Option.bind_eq_some_iff.mp H
        obtain ⟨⟨t129, t130, t131⟩, A700, H⟩ := H
        (try dsimp only at H)
        have A70 := Aside0.mk A700
        clear A700
        replace H := Option.bind_eq_some_iff.mp H
        obtain ⟨⟨t132, t133, t134⟩, A710, H⟩ := H
        (try dsimp only at H)
        have A71 := Aside0.mk A710
        clear A710
        by_cases c72 : t104 = true
        · subst c72
          have H1 : (if (t108 == t115 && (t109 == t116 && (t110 == t117))) = true then (if t122 = true then ((curve_Mul.f a0_0 a0_1 a0_2 (IntKind.u64.wrap (a3 + a4))).bind fun bt136 => (if (t132 == bt136.1 && (t133 == bt136.2.1 && (t134 == bt136.2.2))) = true then ((curve_Add.f a0_0 a0_1 a0_2 a1_0 a1_1 a1_2).bind fun bt139 => ((curve_Add.f a1_0 a1_1 a1_2 a0_0 a0_1 a0_2).bind fun bt142 => (some (bt139.1 == bt142.1 && (bt139.2.1 == bt142.2.1 && (bt139.2.2 == bt142.2.2)))))) else (some false))) else (some false)) else (some false)) = some r := by rw [if_pos rfl] at H; exact H
          clear H
          have H := H1
          clear H1
          by_cases c73 : (t108 == t115 && (t109 == t116 && (t110 == t117))) = true
          · rw [if_pos c73] at H
            have c73b0 : (t108 == t115 && (t109 == t116 && (t110 == t117))) = true := c73
            (try (have c73b1 : decide (t108 = t115 && (t109 == t116 && (t110 == t117))) = true := by simpa using c73))
            (try (have c73b2 : (t108 == t115 && (t109 == t116 && (t110 == t117))) = true := by simpa using c73))
            clear c73
            by_cases c74 : t122 = true
            · subst c74
              have H1 : ((curve_Mul.f a0_0 a0_1 a0_2 (IntKind.u64.wrap (a3 + a4))).bind fun bt136 => (if (t132 == bt136.1 && (t133 == bt136.2.1 && (t134 == bt136.2.2))) = true then ((curve_Add.f a0_0 a0_1 a0_2 a1_0 a1_1 a1_2).bind fun bt139 => ((curve_Add.f a1_0 a1_1 a1_2 a0_0 a0_1 a0_2).bind fun bt142 => (some (bt139.1 == bt142.1 && (bt139.2.1 == bt142.2.1 && (bt139.2.2 == bt142.2.2)))))) else (some false))) = some r := by rw [if_pos rfl] at H; exact H
              clear H
              have H := H1
              clear H1
              replace H := Option.bind_eq_some_iff.mp H
              obtain ⟨⟨t136, t137, t138⟩, A750, H⟩ := H
              (try dsimp only at H)
              have A75 := Aside0.mk A750
              clear A750
              by_cases c76 : (t132 == t136 && (t133 == t137 && (t134 == t138))) = true
              · rw [if_pos c76] at H
                have c76b0 : (t132 == t136 && (t133 == t137 && (t134 == t138))) = true := c76
                (try (have c76b1 : decide (t132 = t136 && (t133 == t137 && (t134 == t138))) = true := by simpa using c76))
                (try (have c76b2 : (t132 == t136 && (t133 == t137 && (t134 == t138))) = true := by simpa using c76))
                clear c76
                replace H := Option.bind_eq_some_iff.mp H
                obtain ⟨⟨t139, t140, t141⟩, A770, H⟩ := H
                (try dsimp only at H)
                have A77 := Aside0.mk A770
                clear A770
                replace H := Option.bind_eq_some_iff.mp H
                obtain ⟨⟨t142, t143, t144⟩, A780, H⟩ := H
                (try dsimp only at H)
                have A78 := Aside0.mk A780
                clear A780
                obtain rfl := Option.some.inj H
                try go_wp2
                (repeat rw [World.drewN_drewN])
                (try (rw [drewN_self wc]; generalize hq_ : World.drewN wc _ = wc; have n0_ : Aside0 (wc.heap[gb101]? = some (.cells #[.bool a0_0, .int .u64 a0_1, .int .u64 a0_2] 24 (0, 0))) := ⟨by rw [← hq_]; exact blk_⟩; have n1_ : Aside0 (wc.heap[gb102]? = some (.cells #[.bool a1_0, .int .u64 a1_1, .int .u64 a1_2] 24 (0, 0))) := ⟨by rw [← hq_]; exact blk_⟩; have n2_ : Aside0 (wc.heap[gb103]? = some (.cells #[.bool a2_0, .int .u64 a2_1, .int .u64 a2_2] 24 (0, 0))) := ⟨by rw [← hq_]; exact blk_⟩; have n3_ : Aside0 (wc.heap[gb111]? = some (.cells #[.bool t108, .int .u64 t109, .int .u64 t110] 24 (0, 0))) := ⟨by rw [← hq_]; exact blk_⟩; have n4_ : Aside0 (wc.heap[gb118]? = some (.cells #[.bool t115, .int .u64 t116, .int .u64 t117] 24 (0, 0))) := ⟨by rw [← hq_]; exact blk_⟩; have n5_ : Aside0 (wc.heap[gb125]? = some (.cells #[.bool true, .int .u64 t123, .int .u64 t124] 24 (0, 0))) := ⟨by rw [← hq_]; exact blk_⟩; have n6_ : Aside0 (Below w.heap.size w wc) := ⟨by rw [← hq_]; exact bel_⟩; clear BK101 BK102 BK103 BK111 BK118 BK125 HB hq_; have BK101 := n0_; have BK102 := n1_; have BK103 := n2_; have BK111 := n3_; have BK118 := n4_; have BK125 := n5_; have HB := n6_; clear n0_ n1_ n2_ n3_ n4_ n5_ n6_))
                have n0_ := Aside0.mk (blk_drew BK101.out)
                have n1_ := Aside0.mk (blk_drew BK102.out)
                have n2_ := Aside0.mk (blk_drew BK103.out)
                have n3_ := Aside0.mk (blk_drew BK111.out)
                have n4_ := Aside0.mk (blk_drew BK118.out)
                have n5_ := Aside0.mk (blk_drew BK125.out)
                have n6_ := Aside0.mk (below_drew1 HB.out)
                clear BK101
                clear BK102
                clear BK103
                clear BK111
                clear BK118
                clear BK125
                clear HB
                have BK101 := n0_
                have BK102 := n1_
                have BK103 := n2_
                have BK111 := n3_
                have BK118 := n4_
                have BK125 := n5_
                have HB := n6_
                clear n0_ n1_ n2_ n3_ n4_ n5_ n6_
                refine start_ (n := 9) (S := fun w' => w'.cell? ⟨gb101, 0, none⟩ = some (.bool a0_0) ∧ w'.cell? ⟨gb101, 1, none⟩ = some (.int .u64 a0_1) ∧ w'.cell? ⟨gb101, 2, none⟩ = some (.int .u64 a0_2)) (ds := []) #[false, false, false, false, false, false, false, false, false] (by kernel_rfl) rfl rfl ⟨(blk_cell BK101.out 0).trans rfl, (blk_cell BK101.out 1).trans rfl, (blk_cell BK101.out 2).trans rfl⟩ (fun hHeld => ?_); refine with_tabW obollaw03_CurveGroup.tab7 obollaw03_CurveGroup.bits7 (fun HT_ HW_ => ?_)
                generalize wc.drew = w79 at BK101 BK102 BK103 BK111 BK118 BK125 HB hHeld ⊢
                refine pure_ (i := 1) (N := some 47) (v := ?_) (a' := ?_) #[false, true, false, false, false, false, false, false, false] rfl rfl (any_of HT_.out (by kernel_rfl)) (fun _ _ _ h => h) (Or.inl ⟨by rfl, ?_⟩) ?_ ?_
                rotate_left
                · intro w'
                  go_simp
                  with_reducible rfl
                rotate_left
                · simp only [Act.put, List.setIfInBounds_toArray, List.set_cons_zero, List.set_cons_succ, i64_w, i32_w]
                  rfl
                refine pure_ (i := 4) (N := some 50) (v := ?_) (a' := ?_) #[false, true, false, false, true, false, false, false, false] rfl rfl (any_of HT_.out (by kernel_rfl)) (fun _ _ _ h => h) (Or.inl ⟨by rfl, ?_⟩) ?_ ?_
                rotate_left
                · intro w'
                  go_simp
                  with_reducible rfl
                rotate_left
                · simp only [Act.put, List.setIfInBounds_toArray, List.set_cons_zero, List.set_cons_succ, i64_w, i32_w]
                  rfl
                refine take_ (i := 0) (N := some 46) (v := ?_) (a' := ?_) #[true, true, false, false, true, false, false, false, false] rfl rfl (take_ofW HT_.out HW_.out (by kernel_rfl)) (fun _ _ _ h => h) (Or.inl ⟨by rfl, ?_⟩) hHeld ?_ ?_
                rotate_left
                · rintro w' ⟨s0, s1, s2⟩
                  go_simp
                  with_reducible rfl
                rotate_left
                · simp only [Act.put, List.setIfInBounds_toArray, List.set_cons_zero, List.set_cons_succ, i64_w, i32_w]
                  rfl
                refine take_ (i := 3) (N := some 49) (v := ?_) (a' := ?_) #[true, true, false, true, true, false, false, false, false] rfl rfl (take_ofW HT_.out HW_.out (by kernel_rfl)) (fun _ _ _ h => h) (Or.inl ⟨by rfl, ?_⟩) hHeld ?_ ?_
                rotate_left
                · rintro w' ⟨s0, s1, s2⟩
                  go_simp
                  with_reducible rfl
                rotate_left
                · simp only [Act.put, List.setIfInBounds_toArray, List.set_cons_zero, List.set_cons_succ, i64_w, i32_w]
                  rfl
                refine join_ (σ := Nat) 1 #[true, true, true, true, true, true, true, true, false] (fun s_ => [(48, .agg #[.bool t126, .int .u64 t127, .int .u64 t128]), (51, .agg #[.bool t129, .int .u64 t130, .int .u64 t131]), (52, .agg #[.bool t132, .int .u64 t133, .int .u64 t134]), (15, .pointer (some ⟨s_, 0, none⟩))]) (fun s_ w' => (w'.cell? ⟨gb101, 0, none⟩ = some (.bool a0_0) ∧ w'.cell? ⟨gb101, 1, none⟩ = some (.int .u64 a0_1) ∧ w'.cell? ⟨gb101, 2, none⟩ = some (.int .u64 a0_2)) ∧ (w'.heap[gb101]? = some (.cells #[.bool a0_0, .int .u64 a0_1, .int .u64 a0_2] 24 (0, 0))) ∧ (w'.heap[gb102]? = some (.cells #[.bool a1_0, .int .u64 a1_1, .int .u64 a1_2] 24 (0, 0))) ∧ (w'.heap[gb103]? = some (.cells #[.bool a2_0, .int .u64 a2_1, .int .u64 a2_2] 24 (0, 0))) ∧ (w'.heap[gb111]? = some (.cells #[.bool t108, .int .u64 t109, .int .u64 t110] 24 (0, 0))) ∧ (w'.heap[gb118]? = some (.cells #[.bool t115, .int .u64 t116, .int .u64 t117] 24 (0, 0))) ∧ (w'.heap[gb125]? = some (.cells #[.bool true, .int .u64 t123, .int .u64 t124] 24 (0, 0))) ∧ (w'.heap[s_]? = some (.cells #[.bool false, .int .u64 0, .int .u64 0] 24 (0, 0))) ∧ (w.heap.size ≤ s_) ∧ (w.heap.size ≤ s_) ∧ (gb101 ≠ s_) ∧ (s_ ≠ gb101) ∧ (gb102 ≠ s_) ∧ (s_ ≠ gb102) ∧ (gb103 ≠ s_) ∧ (s_ ≠ gb103) ∧ (gb111 ≠ s_) ∧ (s_ ≠ gb111) ∧ (gb118 ≠ s_) ∧ (s_ ≠ gb118) ∧ (gb125 ≠ s_) ∧ (s_ ≠ gb125) ∧ (Below w.heap.size w w')) ?_ ?_
                rotate_left
                · intro hCont
                  refine two_ (i := 2) (j := 7) (Ni := some 48) (Nj := some 15) #[true, true, true, true, true, false, false, false, false] #[true, true, false, true, true, false, false, true, false] rfl rfl rfl rfl (two_of HT_.out (by kernel_rfl)) (by decide) (by decide) (fun K hK => ?_) (fun K hK => ?_)
                  · skip
                    refine goes_ Try.func21 (by kernel_rfl) rfl #[.agg #[.bool a0_0, .int .u64 a0_1, .int .u64 a0_2], .int .u64 a3] (by rfl) rfl rfl lna_ ?_
                    with_reducible refine (curve_Mul.calls a0_0 a0_1 a0_2 a3 t126 t127 t128 _ A69.out).mono ?_
                    rintro e w80 ⟨rfl, hb⟩
                    refine ⟨_, rfl, ?_⟩
                    have n0_ := Aside0.mk (blk_below (g := gb101) (o := .cells #[.bool a0_0, .int .u64 a0_1, .int .u64 a0_2] 24 (0, 0)) blk_ hb)
                    have n1_ := Aside0.mk (blk_below (g := gb102) (o := .cells #[.bool a1_0, .int .u64 a1_1, .int .u64 a1_2] 24 (0, 0)) blk_ hb)
                    have n2_ := Aside0.mk (blk_below (g := gb103) (o := .cells #[.bool a2_0, .int .u64 a2_1, .int .u64 a2_2] 24 (0, 0)) blk_ hb)
                    have n3_ := Aside0.mk (blk_below (g := gb111) (o := .cells #[.bool t108, .int .u64 t109, .int .u64 t110] 24 (0, 0)) blk_ hb)
                    have n4_ := Aside0.mk (blk_below (g := gb118) (o := .cells #[.bool t115, .int .u64 t116, .int .u64 t117] 24 (0, 0)) blk_ hb)
                    have n5_ := Aside0.mk (blk_below (g := gb125) (o := .cells #[.bool true, .int .u64 t123, .int .u64 t124] 24 (0, 0)) blk_ hb)
                    have n6_ := Aside0.mk (below_step bel_ hb)
                    clear BK101
                    clear BK102
                    clear BK103
                    clear BK111
                    clear BK118
                    clear BK125
                    clear HB
                    have BK101 := n0_
                    have BK102 := n1_
                    have BK103 := n2_
                    have BK111 := n3_
                    have BK118 := n4_
                    have BK125 := n5_
                    have HB := n6_
                    clear n0_ n1_ n2_ n3_ n4_ n5_ n6_
                    (try clear hb)
                    (try clear hb2)
                    (try clear hk)
                    (try clear hi)
                    refine hK.out _ _ ⟨(blk_cell BK101.out 0).trans rfl, (blk_cell BK101.out 1).trans rfl, (blk_cell BK101.out 2).trans rfl⟩ (fun hHeld => ?_)
                    clear hK K
                    refine norm_ (a' := ?_) ?_ ?_
                    rotate_left
                    · show Act.put _ (some 48) _ = _
                      simp only [Act.put, List.setIfInBounds_toArray, List.set_cons_zero, List.set_cons_succ, i64_w, i32_w]
                      rfl
                    refine two_ (i := 5) (j := 7) (Ni := some 51) (Nj := some 15) #[true, true, true, true, true, true, false, false, false] #[true, true, true, true, true, false, false, true, false] rfl rfl rfl rfl (two_of HT_.out (by kernel_rfl)) (by decide) (by decide) (fun K hK => ?_) (fun K hK => ?_)
                    · skip
                      refine goes_ Try.func21 (by kernel_rfl) rfl #[.agg #[.bool a0_0, .int .u64 a0_1, .int .u64 a0_2], .int .u64 a4] (by rfl) rfl rfl lna_ ?_
                      with_reducible refine (curve_Mul.calls a0_0 a0_1 a0_2 a4 t129 t130 t131 _ A70.out).mono ?_
                      rintro e w81 ⟨rfl, hb⟩
                      refine ⟨_, rfl, ?_⟩
                      have n0_ := Aside0.mk (blk_below (g := gb101) (o := .cells #[.bool a0_0, .int .u64 a0_1, .int .u64 a0_2] 24 (0, 0)) blk_ hb)
                      have n1_ := Aside0.mk (blk_below (g := gb102) (o := .cells #[.bool a1_0, .int .u64 a1_1, .int .u64 a1_2] 24 (0, 0)) blk_ hb)
                      have n2_ := Aside0.mk (blk_below (g := gb103) (o := .cells #[.bool a2_0, .int .u64 a2_1, .int .u64 a2_2] 24 (0, 0)) blk_ hb)
                      have n3_ := Aside0.mk (blk_below (g := gb111) (o := .cells #[.bool t108, .int .u64 t109, .int .u64 t110] 24 (0, 0)) blk_ hb)
                      have n4_ := Aside0.mk (blk_below (g := gb118) (o := .cells #[.bool t115, .int .u64 t116, .int .u64 t117] 24 (0, 0)) blk_ hb)
                      have n5_ := Aside0.mk (blk_below (g := gb125) (o := .cells #[.bool true, .int .u64 t123, .int .u64 t124] 24 (0, 0)) blk_ hb)
                      have n6_ := Aside0.mk (below_step bel_ hb)
                      clear BK101
                      clear BK102
                      clear BK103
                      clear BK111
                      clear BK118
                      clear BK125
                      clear HB
                      have BK101 := n0_
                      have BK102 := n1_
                      have BK103 := n2_
                      have BK111 := n3_
                      have BK118 := n4_
                      have BK125 := n5_
                      have HB := n6_
                      clear n0_ n1_ n2_ n3_ n4_ n5_ n6_
                      (try clear hb)
                      (try clear hb2)
                      (try clear hk)
                      (try clear hi)
                      refine hK.out _ _ ⟨(blk_cell BK101.out 0).trans rfl, (blk_cell BK101.out 1).trans rfl, (blk_cell BK101.out 2).trans rfl⟩ (fun hHeld => ?_)
                      clear hK K
                      refine norm_ (a' := ?_) ?_ ?_
                      rotate_left
                      · show Act.put _ (some 51) _ = _
                        simp only [Act.put, List.setIfInBounds_toArray, List.set_cons_zero, List.set_cons_succ, i64_w, i32_w]
                        rfl
                      refine two_ (i := 6) (j := 7) (Ni := some 52) (Nj := some 15) #[true, true, true, true, true, true, true, false, false] #[true, true, true, true, true, true, false, true, false] rfl rfl rfl rfl (two_of HT_.out (by kernel_rfl)) (by decide) (by decide) (fun K hK => ?_) (fun K hK => ?_)
                      · skip
                        refine goes_ Try.func17 (by kernel_rfl) rfl #[.agg #[.bool t126, .int .u64 t127, .int .u64 t128], .agg #[.bool t129, .int .u64 t130, .int .u64 t131]] (by rfl) rfl rfl lna_ ?_
                        with_reducible refine (curve_Add.calls t126 t127 t128 t129 t130 t131 t132 t133 t134 _ A71.out).mono ?_
                        rintro e w82 ⟨rfl, hb⟩
                        refine ⟨_, rfl, ?_⟩
                        have n0_ := Aside0.mk (blk_below (g := gb101) (o := .cells #[.bool a0_0, .int .u64 a0_1, .int .u64 a0_2] 24 (0, 0)) blk_ hb)
                        have n1_ := Aside0.mk (blk_below (g := gb102) (o := .cells #[.bool a1_0, .int .u64 a1_1, .int .u64 a1_2] 24 (0, 0)) blk_ hb)
                        have n2_ := Aside0.mk (blk_below (g := gb103) (o := .cells #[.bool a2_0, .int .u64 a2_1, .int .u64 a2_2] 24 (0, 0)) blk_ hb)
                        have n3_ := Aside0.mk (blk_below (g := gb111) (o := .cells #[.bool t108, .int .u64 t109, .int .u64 t110] 24 (0, 0)) blk_ hb)
                        have n4_ := Aside0.mk (blk_below (g := gb118) (o := .cells #[.bool t115, .int .u64 t116, .int .u64 t117] 24 (0, 0)) blk_ hb)
                        have n5_ := Aside0.mk (blk_below (g := gb125) (o := .cells #[.bool true, .int .u64 t123, .int .u64 t124] 24 (0, 0)) blk_ hb)
                        have n6_ := Aside0.mk (below_step bel_ hb)
                        clear BK101
                        clear BK102
                        clear BK103
                        clear BK111
                        clear BK118
                        clear BK125
                        clear HB
                        have BK101 := n0_
                        have BK102 := n1_
                        have BK103 := n2_
                        have BK111 := n3_
                        have BK118 := n4_
                        have BK125 := n5_
                        have HB := n6_
                        clear n0_ n1_ n2_ n3_ n4_ n5_ n6_
                        (try clear hb)
                        (try clear hb2)
                        (try clear hk)
                        (try clear hi)
                        refine hK.out _ _ ⟨(blk_cell BK101.out 0).trans rfl, (blk_cell BK101.out 1).trans rfl, (blk_cell BK101.out 2).trans rfl⟩ (fun hHeld => ?_)
                        clear hK K
                        refine norm_ (a' := ?_) ?_ ?_
                        rotate_left
                        · show Act.put _ (some 52) _ = _
                          simp only [Act.put, List.setIfInBounds_toArray, List.set_cons_zero, List.set_cons_succ, i64_w, i32_w]
                          rfl
                        refine one_ (i := 7) (N := some 15) #[true, true, true, true, true, true, true, true, false] rfl rfl (one_of HT_.out (by kernel_rfl)) (by decide) (fun K hK => ?_)
                        refine box_step ?hg (N := 15) ?hd (cs := #[.bool false, .int .u64 0, .int .u64 0]) (t := 24) ?hr ?_; (case hd => rfl); (case hg => rfl); (case hr => first | (go_simp; done) | (go_simp; rfl))
                        intro gb135 hg w83 hbox hb
                        have n0_ := Aside0.mk (blk_below (g := gb101) (o := .cells #[.bool a0_0, .int .u64 a0_1, .int .u64 a0_2] 24 (0, 0)) blk_ hb)
                        have n1_ := Aside0.mk (blk_below (g := gb102) (o := .cells #[.bool a1_0, .int .u64 a1_1, .int .u64 a1_2] 24 (0, 0)) blk_ hb)
                        have n2_ := Aside0.mk (blk_below (g := gb103) (o := .cells #[.bool a2_0, .int .u64 a2_1, .int .u64 a2_2] 24 (0, 0)) blk_ hb)
                        have n3_ := Aside0.mk (blk_below (g := gb111) (o := .cells #[.bool t108, .int .u64 t109, .int .u64 t110] 24 (0, 0)) blk_ hb)
                        have n4_ := Aside0.mk (blk_below (g := gb118) (o := .cells #[.bool t115, .int .u64 t116, .int .u64 t117] 24 (0, 0)) blk_ hb)
                        have n5_ := Aside0.mk (blk_below (g := gb125) (o := .cells #[.bool true, .int .u64 t123, .int .u64 t124] 24 (0, 0)) blk_ hb)
                        have n6_ := Aside0.mk (below_step bel_ hb)
                        have n7_ := Aside0.mk (hbox)
                        have n8_ := Aside0.mk ((by rw [hg]; exact (below_size bel_) : w.heap.size ≤ gb135))
                        have n9_ := Aside0.mk ((by rw [hg]; exact (below_size bel_) : w.heap.size ≤ gb135))
                        have n10_ := Aside0.mk ((by rw [hg]; exact Nat.ne_of_lt (blk_lt (g := gb101) (o := .cells #[.bool a0_0, .int .u64 a0_1, .int .u64 a0_2] 24 (0, 0)) blk_) : gb101 ≠ gb135))
                        have n11_ := Aside0.mk ((by rw [hg]; exact Nat.ne_of_gt (blk_lt (g := gb101) (o := .cells #[.bool a0_0, .int .u64 a0_1, .int .u64 a0_2] 24 (0, 0)) blk_) : gb135 ≠ gb101))
                        have n12_ := Aside0.mk ((by rw [hg]; exact Nat.ne_of_lt (blk_lt (g := gb102) (o := .cells #[.bool a1_0, .int .u64 a1_1, .int .u64 a1_2] 24 (0, 0)) blk_) : gb102 ≠ gb135))
                        have n13_ := Aside0.mk ((by rw [hg]; exact Nat.ne_of_gt (blk_lt (g := gb102) (o := .cells #[.bool a1_0, .int .u64 a1_1, .int .u64 a1_2] 24 (0, 0)) blk_) : gb135 ≠ gb102))
                        have n14_ := Aside0.mk ((by rw [hg]; exact Nat.ne_of_lt (blk_lt (g := gb103) (o := .cells #[.bool a2_0, .int .u64 a2_1, .int .u64 a2_2] 24 (0, 0)) blk_) : gb103 ≠ gb135))
                        have n15_ := Aside0.mk ((by rw [hg]; exact Nat.ne_of_gt (blk_lt (g := gb103) (o := .cells #[.bool a2_0, .int .u64 a2_1, .int .u64 a2_2] 24 (0, 0)) blk_) : gb135 ≠ gb103))
                        have n16_ := Aside0.mk ((by rw [hg]; exact Nat.ne_of_lt (blk_lt (g := gb111) (o := .cells #[.bool t108, .int .u64 t109, .int .u64 t110] 24 (0, 0)) blk_) : gb111 ≠ gb135))
                        have n17_ := Aside0.mk ((by rw [hg]; exact Nat.ne_of_gt (blk_lt (g := gb111) (o := .cells #[.bool t108, .int .u64 t109, .int .u64 t110] 24 (0, 0)) blk_) : gb135 ≠ gb111))
                        have n18_ := Aside0.mk ((by rw [hg]; exact Nat.ne_of_lt (blk_lt (g := gb118) (o := .cells #[.bool t115, .int .u64 t116, .int .u64 t117] 24 (0, 0)) blk_) : gb118 ≠ gb135))
                        have n19_ := Aside0.mk ((by rw [hg]; exact Nat.ne_of_gt (blk_lt (g := gb118) (o := .cells #[.bool t115, .int .u64 t116, .int .u64 t117] 24 (0, 0)) blk_) : gb135 ≠ gb118))
                        have n20_ := Aside0.mk ((by rw [hg]; exact Nat.ne_of_lt (blk_lt (g := gb125) (o := .cells #[.bool true, .int .u64 t123, .int .u64 t124] 24 (0, 0)) blk_) : gb125 ≠ gb135))
                        have n21_ := Aside0.mk ((by rw [hg]; exact Nat.ne_of_gt (blk_lt (g := gb125) (o := .cells #[.bool true, .int .u64 t123, .int .u64 t124] 24 (0, 0)) blk_) : gb135 ≠ gb125))
                        clear BK101
                        clear BK102
                        clear BK103
                        clear BK111
                        clear BK118
                        clear BK125
                        clear HB
                        have BK101 := n0_
                        have BK102 := n1_
                        have BK103 := n2_
                        have BK111 := n3_
                        have BK118 := n4_
                        have BK125 := n5_
                        have HB := n6_
                        have BK135 := n7_
                        have GW135 := n8_
                        have GE135 := n9_
                        have NB101_135 := n10_
                        have NB135_101 := n11_
                        have NB102_135 := n12_
                        have NB135_102 := n13_
                        have NB103_135 := n14_
                        have NB135_103 := n15_
                        have NB111_135 := n16_
                        have NB135_111 := n17_
                        have NB118_135 := n18_
                        have NB135_118 := n19_
                        have NB125_135 := n20_
                        have NB135_125 := n21_
                        clear n0_ n1_ n2_ n3_ n4_ n5_ n6_ n7_ n8_ n9_ n10_ n11_ n12_ n13_ n14_ n15_ n16_ n17_ n18_ n19_ n20_ n21_
                        clear hb hbox hg
                        refine hK.out _ _ ⟨(blk_cell BK101.out 0).trans rfl, (blk_cell BK101.out 1).trans rfl, (blk_cell BK101.out 2).trans rfl⟩ (fun hHeld => ?_)
                        clear hK K
                        refine norm_ (a' := ?_) ?_ ?_
                        rotate_left
                        · show Act.put _ (some 15) _ = _
                          simp only [Act.put, List.setIfInBounds_toArray, List.set_cons_zero, List.set_cons_succ, i64_w, i32_w]
                          rfl
                        exact norm_ (by simp only [putAll, Act.put, List.setIfInBounds_toArray, List.set_cons_zero, List.set_cons_succ]) (hCont (gb135) _ ⟨hHeld, blk_, blk_, blk_, blk_, blk_, blk_, blk_, GW135.out, GE135.out, NB101_135.out, NB135_101.out, NB102_135.out, NB135_102.out, NB103_135.out, NB135_103.out, NB111_135.out, NB135_111.out, NB118_135.out, NB135_118.out, NB125_135.out, NB135_125.out, bel_⟩)
                      · skip
                        refine box_step ?hg (N := 15) ?hd (cs := #[.bool false, .int .u64 0, .int .u64 0]) (t := 24) ?hr ?_; (case hd => rfl); (case hg => rfl); (case hr => first | (go_simp; done) | (go_simp; rfl))
                        intro gb135 hg w82 hbox hb
                        have n0_ := Aside0.mk (blk_below (g := gb101) (o := .cells #[.bool a0_0, .int .u64 a0_1, .int .u64 a0_2] 24 (0, 0)) blk_ hb)
                        have n1_ := Aside0.mk (blk_below (g := gb102) (o := .cells #[.bool a1_0, .int .u64 a1_1, .int .u64 a1_2] 24 (0, 0)) blk_ hb)
                        have n2_ := Aside0.mk (blk_below (g := gb103) (o := .cells #[.bool a2_0, .int .u64 a2_1, .int .u64 a2_2] 24 (0, 0)) blk_ hb)
                        have n3_ := Aside0.mk (blk_below (g := gb111) (o := .cells #[.bool t108, .int .u64 t109, .int .u64 t110] 24 (0, 0)) blk_ hb)
                        have n4_ := Aside0.mk (blk_below (g := gb118) (o := .cells #[.bool t115, .int .u64 t116, .int .u64 t117] 24 (0, 0)) blk_ hb)
                        have n5_ := Aside0.mk (blk_below (g := gb125) (o := .cells #[.bool true, .int .u64 t123, .int .u64 t124] 24 (0, 0)) blk_ hb)
                        have n6_ := Aside0.mk (below_step bel_ hb)
                        have n7_ := Aside0.mk (hbox)
                        have n8_ := Aside0.mk ((by rw [hg]; exact (below_size bel_) : w.heap.size ≤ gb135))
                        have n9_ := Aside0.mk ((by rw [hg]; exact (below_size bel_) : w.heap.size ≤ gb135))
                        have n10_ := Aside0.mk ((by rw [hg]; exact Nat.ne_of_lt (blk_lt (g := gb101) (o := .cells #[.bool a0_0, .int .u64 a0_1, .int .u64 a0_2] 24 (0, 0)) blk_) : gb101 ≠ gb135))
                        have n11_ := Aside0.mk ((by rw [hg]; exact Nat.ne_of_gt (blk_lt (g := gb101) (o := .cells #[.bool a0_0, .int .u64 a0_1, .int .u64 a0_2] 24 (0, 0)) blk_) : gb135 ≠ gb101))
                        have n12_ := Aside0.mk ((by rw [hg]; exact Nat.ne_of_lt (blk_lt (g := gb102) (o := .cells #[.bool a1_0, .int .u64 a1_1, .int .u64 a1_2] 24 (0, 0)) blk_) : gb102 ≠ gb135))
                        have n13_ := Aside0.mk ((by rw [hg]; exact Nat.ne_of_gt (blk_lt (g := gb102) (o := .cells #[.bool a1_0, .int .u64 a1_1, .int .u64 a1_2] 24 (0, 0)) blk_) : gb135 ≠ gb102))
                        have n14_ := Aside0.mk ((by rw [hg]; exact Nat.ne_of_lt (blk_lt (g := gb103) (o := .cells #[.bool a2_0, .int .u64 a2_1, .int .u64 a2_2] 24 (0, 0)) blk_) : gb103 ≠ gb135))
                        have n15_ := Aside0.mk ((by rw [hg]; exact Nat.ne_of_gt (blk_lt (g := gb103) (o := .cells #[.bool a2_0, .int .u64 a2_1, .int .u64 a2_2] 24 (0, 0)) blk_) : gb135 ≠ gb103))
                        have n16_ := Aside0.mk ((by rw [hg]; exact Nat.ne_of_lt (blk_lt (g := gb111) (o := .cells #[.bool t108, .int .u64 t109, .int .u64 t110] 24 (0, 0)) blk_) : gb111 ≠ gb135))
                        have n17_ := Aside0.mk ((by rw [hg]; exact Nat.ne_of_gt (blk_lt (g := gb111) (o := .cells #[.bool t108, .int .u64 t109, .int .u64 t110] 24 (0, 0)) blk_) : gb135 ≠ gb111))
                        have n18_ := Aside0.mk ((by rw [hg]; exact Nat.ne_of_lt (blk_lt (g := gb118) (o := .cells #[.bool t115, .int .u64 t116, .int .u64 t117] 24 (0, 0)) blk_) : gb118 ≠ gb135))
                        have n19_ := Aside0.mk ((by rw [hg]; exact Nat.ne_of_gt (blk_lt (g := gb118) (o := .cells #[.bool t115, .int .u64 t116, .int .u64 t117] 24 (0, 0)) blk_) : gb135 ≠ gb118))
                        have n20_ := Aside0.mk ((by rw [hg]; exact Nat.ne_of_lt (blk_lt (g := gb125) (o := .cells #[.bool true, .int .u64 t123, .int .u64 t124] 24 (0, 0)) blk_) : gb125 ≠ gb135))
                        have n21_ := Aside0.mk ((by rw [hg]; exact Nat.ne_of_gt (blk_lt (g := gb125) (o := .cells #[.bool true, .int .u64 t123, .int .u64 t124] 24 (0, 0)) blk_) : gb135 ≠ gb125))
                        clear BK101
                        clear BK102
                        clear BK103
                        clear BK111
                        clear BK118
                        clear BK125
                        clear HB
                        have BK101 := n0_
                        have BK102 := n1_
                        have BK103 := n2_
                        have BK111 := n3_
                        have BK118 := n4_
                        have BK125 := n5_
                        have HB := n6_
                        have BK135 := n7_
                        have GW135 := n8_
                        have GE135 := n9_
                        have NB101_135 := n10_
                        have NB135_101 := n11_
                        have NB102_135 := n12_
                        have NB135_102 := n13_
                        have NB103_135 := n14_
                        have NB135_103 := n15_
                        have NB111_135 := n16_
                        have NB135_111 := n17_
                        have NB118_135 := n18_
                        have NB135_118 := n19_
                        have NB125_135 := n20_
                        have NB135_125 := n21_
                        clear n0_ n1_ n2_ n3_ n4_ n5_ n6_ n7_ n8_ n9_ n10_ n11_ n12_ n13_ n14_ n15_ n16_ n17_ n18_ n19_ n20_ n21_
                        clear hb hbox hg
                        refine hK.out _ _ ⟨(blk_cell BK101.out 0).trans rfl, (blk_cell BK101.out 1).trans rfl, (blk_cell BK101.out 2).trans rfl⟩ (fun hHeld => ?_)
                        clear hK K
                        refine norm_ (a' := ?_) ?_ ?_
                        rotate_left
                        · show Act.put _ (some 15) _ = _
                          simp only [Act.put, List.setIfInBounds_toArray, List.set_cons_zero, List.set_cons_succ, i64_w, i32_w]
                          rfl
                        refine one_ (i := 6) (N := some 52) #[true, true, true, true, true, true, true, true, false] rfl rfl (one_of HT_.out (by kernel_rfl)) (by decide) (fun K hK => ?_)
                        refine goes_ Try.func17 (by kernel_rfl) rfl #[.agg #[.bool t126, .int .u64 t127, .int .u64 t128], .agg #[.bool t129, .int .u64 t130, .int .u64 t131]] (by rfl) rfl rfl lna_ ?_
                        with_reducible refine (curve_Add.calls t126 t127 t128 t129 t130 t131 t132 t133 t134 _ A71.out).mono ?_
                        rintro e w83 ⟨rfl, hb⟩
                        refine ⟨_, rfl, ?_⟩
                        have n0_ := Aside0.mk (blk_below (g := gb101) (o := .cells #[.bool a0_0, .int .u64 a0_1, .int .u64 a0_2] 24 (0, 0)) blk_ hb)
                        have n1_ := Aside0.mk (blk_below (g := gb102) (o := .cells #[.bool a1_0, .int .u64 a1_1, .int .u64 a1_2] 24 (0, 0)) blk_ hb)
                        have n2_ := Aside0.mk (blk_below (g := gb103) (o := .cells #[.bool a2_0, .int .u64 a2_1, .int .u64 a2_2] 24 (0, 0)) blk_ hb)
                        have n3_ := Aside0.mk (blk_below (g := gb111) (o := .cells #[.bool t108, .int .u64 t109, .int .u64 t110] 24 (0, 0)) blk_ hb)
                        have n4_ := Aside0.mk (blk_below (g := gb118) (o := .cells #[.bool t115, .int .u64 t116, .int .u64 t117] 24 (0, 0)) blk_ hb)
                        have n5_ := Aside0.mk (blk_below (g := gb125) (o := .cells #[.bool true, .int .u64 t123, .int .u64 t124] 24 (0, 0)) blk_ hb)
                        have n6_ := Aside0.mk (blk_below (g := gb135) (o := .cells #[.bool false, .int .u64 0, .int .u64 0] 24 (0, 0)) blk_ hb)
                        have n7_ := Aside0.mk (below_step bel_ hb)
                        clear BK101
                        clear BK102
                        clear BK103
                        clear BK111
                        clear BK118
                        clear BK125
                        clear BK135
                        clear HB
                        have BK101 := n0_
                        have BK102 := n1_
                        have BK103 := n2_
                        have BK111 := n3_
                        have BK118 := n4_
                        have BK125 := n5_
                        have BK135 := n6_
                        have HB := n7_
                        clear n0_ n1_ n2_ n3_ n4_ n5_ n6_ n7_
                        (try clear hb)
                        (try clear hb2)
                        (try clear hk)
                        (try clear hi)
                        refine hK.out _ _ ⟨(blk_cell BK101.out 0).trans rfl, (blk_cell BK101.out 1).trans rfl, (blk_cell BK101.out 2).trans rfl⟩ (fun hHeld => ?_)
                        clear hK K
                        refine norm_ (a' := ?_) ?_ ?_
                        rotate_left
                        · show Act.put _ (some 52) _ = _
                          simp only [Act.put, List.setIfInBounds_toArray, List.set_cons_zero, List.set_cons_succ, i64_w, i32_w]
                          rfl
                        exact norm_ (by simp only [putAll, Act.put, List.setIfInBounds_toArray, List.set_cons_zero, List.set_cons_succ]) (hCont (gb135) _ ⟨hHeld, blk_, blk_, blk_, blk_, blk_, blk_, blk_, GW135.out, GE135.out, NB101_135.out, NB135_101.out, NB102_135.out, NB135_102.out, NB103_135.out, NB135_103.out, NB111_135.out, NB135_111.out, NB118_135.out, NB135_118.out, NB125_135.out, NB135_125.out, bel_⟩)
                    · skip
                      refine box_step ?hg (N := 15) ?hd (cs := #[.bool false, .int .u64 0, .int .u64 0]) (t := 24) ?hr ?_; (case hd => rfl); (case hg => rfl); (case hr => first | (go_simp; done) | (go_simp; rfl))
                      intro gb135 hg w81 hbox hb
                      have n0_ := Aside0.mk (blk_below (g := gb101) (o := .cells #[.bool a0_0, .int .u64 a0_1, .int .u64 a0_2] 24 (0, 0)) blk_ hb)
                      have n1_ := Aside0.mk (blk_below (g := gb102) (o := .cells #[.bool a1_0, .int .u64 a1_1, .int .u64 a1_2] 24 (0, 0)) blk_ hb)
                      have n2_ := Aside0.mk (blk_below (g := gb103) (o := .cells #[.bool a2_0, .int .u64 a2_1, .int .u64 a2_2] 24 (0, 0)) blk_ hb)
                      have n3_ := Aside0.mk (blk_below (g := gb111) (o := .cells #[.bool t108, .int .u64 t109, .int .u64 t110] 24 (0, 0)) blk_ hb)
                      have n4_ := Aside0.mk (blk_below (g := gb118) (o := .cells #[.bool t115, .int .u64 t116, .int .u64 t117] 24 (0, 0)) blk_ hb)
                      have n5_ := Aside0.mk (blk_below (g := gb125) (o := .cells #[.bool true, .int .u64 t123, .int .u64 t124] 24 (0, 0)) blk_ hb)
                      have n6_ := Aside0.mk (below_step bel_ hb)
                      have n7_ := Aside0.mk (hbox)
                      have n8_ := Aside0.mk ((by rw [hg]; exact (below_size bel_) : w.heap.size ≤ gb135))
                      have n9_ := Aside0.mk ((by rw [hg]; exact (below_size bel_) : w.heap.size ≤ gb135))
                      have n10_ := Aside0.mk ((by rw [hg]; exact Nat.ne_of_lt (blk_lt (g := gb101) (o := .cells #[.bool a0_0, .int .u64 a0_1, .int .u64 a0_2] 24 (0, 0)) blk_) : gb101 ≠ gb135))
                      have n11_ := Aside0.mk ((by rw [hg]; exact Nat.ne_of_gt (blk_lt (g := gb101) (o := .cells #[.bool a0_0, .int .u64 a0_1, .int .u64 a0_2] 24 (0, 0)) blk_) : gb135 ≠ gb101))
                      have n12_ := Aside0.mk ((by rw [hg]; exact Nat.ne_of_lt (blk_lt (g := gb102) (o := .cells #[.bool a1_0, .int .u64 a1_1, .int .u64 a1_2] 24 (0, 0)) blk_) : gb102 ≠ gb135))
                      have n13_ := Aside0.mk ((by rw [hg]; exact Nat.ne_of_gt (blk_lt (g := gb102) (o := .cells #[.bool a1_0, .int .u64 a1_1, .int .u64 a1_2] 24 (0, 0)) blk_) : gb135 ≠ gb102))
                      have n14_ := Aside0.mk ((by rw [hg]; exact Nat.ne_of_lt (blk_lt (g := gb103) (o := .cells #[.bool a2_0, .int .u64 a2_1, .int .u64 a2_2] 24 (0, 0)) blk_) : gb103 ≠ gb135))
                      have n15_ := Aside0.mk ((by rw [hg]; exact Nat.ne_of_gt (blk_lt (g := gb103) (o := .cells #[.bool a2_0, .int .u64 a2_1, .int .u64 a2_2] 24 (0, 0)) blk_) : gb135 ≠ gb103))
                      have n16_ := Aside0.mk ((by rw [hg]; exact Nat.ne_of_lt (blk_lt (g := gb111) (o := .cells #[.bool t108, .int .u64 t109, .int .u64 t110] 24 (0, 0)) blk_) : gb111 ≠ gb135))
                      have n17_ := Aside0.mk ((by rw [hg]; exact Nat.ne_of_gt (blk_lt (g := gb111) (o := .cells #[.bool t108, .int .u64 t109, .int .u64 t110] 24 (0, 0)) blk_) : gb135 ≠ gb111))
                      have n18_ := Aside0.mk ((by rw [hg]; exact Nat.ne_of_lt (blk_lt (g := gb118) (o := .cells #[.bool t115, .int .u64 t116, .int .u64 t117] 24 (0, 0)) blk_) : gb118 ≠ gb135))
                      have n19_ := Aside0.mk ((by rw [hg]; exact Nat.ne_of_gt (blk_lt (g := gb118) (o := .cells #[.bool t115, .int .u64 t116, .int .u64 t117] 24 (0, 0)) blk_) : gb135 ≠ gb118))
                      have n20_ := Aside0.mk ((by rw [hg]; exact Nat.ne_of_lt (blk_lt (g := gb125) (o := .cells #[.bool true, .int .u64 t123, .int .u64 t124] 24 (0, 0)) blk_) : gb125 ≠ gb135))
                      have n21_ := Aside0.mk ((by rw [hg]; exact Nat.ne_of_gt (blk_lt (g := gb125) (o := .cells #[.bool true, .int .u64 t123, .int .u64 t124] 24 (0, 0)) blk_) : gb135 ≠ gb125))
                      clear BK101
                      clear BK102
                      clear BK103
                      clear BK111
                      clear BK118
                      clear BK125
                      clear HB
                      have BK101 := n0_
                      have BK102 := n1_
                      have BK103 := n2_
                      have BK111 := n3_
                      have BK118 := n4_
                      have BK125 := n5_
                      have HB := n6_
                      have BK135 := n7_
                      have GW135 := n8_
                      have GE135 := n9_
                      have NB101_135 := n10_
                      have NB135_101 := n11_
                      have NB102_135 := n12_
                      have NB135_102 := n13_
                      have NB103_135 := n14_
                      have NB135_103 := n15_
                      have NB111_135 := n16_
                      have NB135_111 := n17_
                      have NB118_135 := n18_
                      have NB135_118 := n19_
                      have NB125_135 := n20_
                      have NB135_125 := n21_
                      clear n0_ n1_ n2_ n3_ n4_ n5_ n6_ n7_ n8_ n9_ n10_ n11_ n12_ n13_ n14_ n15_ n16_ n17_ n18_ n19_ n20_ n21_
                      clear hb hbox hg
                      refine hK.out _ _ ⟨(blk_cell BK101.out 0).trans rfl, (blk_cell BK101.out 1).trans rfl, (blk_cell BK101.out 2).trans rfl⟩ (fun hHeld => ?_)
                      clear hK K
                      refine norm_ (a' := ?_) ?_ ?_
                      rotate_left
                      · show Act.put _ (some 15) _ = _
                        simp only [Act.put, List.setIfInBounds_toArray, List.set_cons_zero, List.set_cons_succ, i64_w, i32_w]
                        rfl
                      refine one_ (i := 5) (N := some 51) #[true, true, true, true, true, true, false, true, false] rfl rfl (one_of HT_.out (by kernel_rfl)) (by decide) (fun K hK => ?_)
                      refine goes_ Try.func21 (by kernel_rfl) rfl #[.agg #[.bool a0_0, .int .u64 a0_1, .int .u64 a0_2], .int .u64 a4] (by rfl) rfl rfl lna_ ?_
                      with_reducible refine (curve_Mul.calls a0_0 a0_1 a0_2 a4 t129 t130 t131 _ A70.out).mono ?_
                      rintro e w82 ⟨rfl, hb⟩
                      refine ⟨_, rfl, ?_⟩
                      have n0_ := Aside0.mk (blk_below (g := gb101) (o := .cells #[.bool a0_0, .int .u64 a0_1, .int .u64 a0_2] 24 (0, 0)) blk_ hb)
                      have n1_ := Aside0.mk (blk_below (g := gb102) (o := .cells #[.bool a1_0, .int .u64 a1_1, .int .u64 a1_2] 24 (0, 0)) blk_ hb)
                      have n2_ := Aside0.mk (blk_below (g := gb103) (o := .cells #[.bool a2_0, .int .u64 a2_1, .int .u64 a2_2] 24 (0, 0)) blk_ hb)
                      have n3_ := Aside0.mk (blk_below (g := gb111) (o := .cells #[.bool t108, .int .u64 t109, .int .u64 t110] 24 (0, 0)) blk_ hb)
                      have n4_ := Aside0.mk (blk_below (g := gb118) (o := .cells #[.bool t115, .int .u64 t116, .int .u64 t117] 24 (0, 0)) blk_ hb)
                      have n5_ := Aside0.mk (blk_below (g := gb125) (o := .cells #[.bool true, .int .u64 t123, .int .u64 t124] 24 (0, 0)) blk_ hb)
                      have n6_ := Aside0.mk (blk_below (g := gb135) (o := .cells #[.bool false, .int .u64 0, .int .u64 0] 24 (0, 0)) blk_ hb)
                      have n7_ := Aside0.mk (below_step bel_ hb)
                      clear BK101
                      clear BK102
                      clear BK103
                      clear BK111
                      clear BK118
                      clear BK125
                      clear BK135
                      clear HB
                      have BK101 := n0_
                      have BK102 := n1_
                      have BK103 := n2_
                      have BK111 := n3_
                      have BK118 := n4_
                      have BK125 := n5_
                      have BK135 := n6_
                      have HB := n7_
                      clear n0_ n1_ n2_ n3_ n4_ n5_ n6_ n7_
                      (try clear hb)
                      (try clear hb2)
                      (try clear hk)
                      (try clear hi)
                      refine hK.out _ _ ⟨(blk_cell BK101.out 0).trans rfl, (blk_cell BK101.out 1).trans rfl, (blk_cell BK101.out 2).trans rfl⟩ (fun hHeld => ?_)
                      clear hK K
                      refine norm_ (a' := ?_) ?_ ?_
                      rotate_left
                      · show Act.put _ (some 51) _ = _
                        simp only [Act.put, List.setIfInBounds_toArray, List.set_cons_zero, List.set_cons_succ, i64_w, i32_w]
                        rfl
                      refine one_ (i := 6) (N := some 52) #[true, true, true, true, true, true, true, true, false] rfl rfl (one_of HT_.out (by kernel_rfl)) (by decide) (fun K hK => ?_)
                      refine goes_ Try.func17 (by kernel_rfl) rfl #[.agg #[.bool t126, .int .u64 t127, .int .u64 t128], .agg #[.bool t129, .int .u64 t130, .int .u64 t131]] (by rfl) rfl rfl lna_ ?_
                      with_reducible refine (curve_Add.calls t126 t127 t128 t129 t130 t131 t132 t133 t134 _ A71.out).mono ?_
                      rintro e w83 ⟨rfl, hb⟩
                      refine ⟨_, rfl, ?_⟩
                      have n0_ := Aside0.mk (blk_below (g := gb101) (o := .cells #[.bool a0_0, .int .u64 a0_1, .int .u64 a0_2] 24 (0, 0)) blk_ hb)
                      have n1_ := Aside0.mk (blk_below (g := gb102) (o := .cells #[.bool a1_0, .int .u64 a1_1, .int .u64 a1_2] 24 (0, 0)) blk_ hb)
                      have n2_ := Aside0.mk (blk_below (g := gb103) (o := .cells #[.bool a2_0, .int .u64 a2_1, .int .u64 a2_2] 24 (0, 0)) blk_ hb)
                      have n3_ := Aside0.mk (blk_below (g := gb111) (o := .cells #[.bool t108, .int .u64 t109, .int .u64 t110] 24 (0, 0)) blk_ hb)
                      have n4_ := Aside0.mk (blk_below (g := gb118) (o := .cells #[.bool t115, .int .u64 t116, .int .u64 t117] 24 (0, 0)) blk_ hb)
                      have n5_ := Aside0.mk (blk_below (g := gb125) (o := .cells #[.bool true, .int .u64 t123, .int .u64 t124] 24 (0, 0)) blk_ hb)
                      have n6_ := Aside0.mk (blk_below (g := gb135) (o := .cells #[.bool false, .int .u64 0, .int .u64 0] 24 (0, 0)) blk_ hb)
                      have n7_ := Aside0.mk (below_step bel_ hb)
                      clear BK101
                      clear BK102
                      clear BK103
                      clear BK111
                      clear BK118
                      clear BK125
                      clear BK135
                      clear HB
                      have BK101 := n0_
                      have BK102 := n1_
                      have BK103 := n2_
                      have BK111 := n3_
                      have BK118 := n4_
                      have BK125 := n5_
                      have BK135 := n6_
                      have HB := n7_
                      clear n0_ n1_ n2_ n3_ n4_ n5_ n6_ n7_
                      (try clear hb)
                      (try clear hb2)
                      (try clear hk)
                      (try clear hi)
                      refine hK.out _ _ ⟨(blk_cell BK101.out 0).trans rfl, (blk_cell BK101.out 1).trans rfl, (blk_cell BK101.out 2).trans rfl⟩ (fun hHeld => ?_)
                      clear hK K
                      refine norm_ (a' := ?_) ?_ ?_
                      rotate_left
                      · show Act.put _ (some 52) _ = _
                        simp only [Act.put, List.setIfInBounds_toArray, List.set_cons_zero, List.set_cons_succ, i64_w, i32_w]
                        rfl
                      exact norm_ (by simp only [putAll, Act.put, List.setIfInBounds_toArray, List.set_cons_zero, List.set_cons_succ]) (hCont (gb135) _ ⟨hHeld, blk_, blk_, blk_, blk_, blk_, blk_, blk_, GW135.out, GE135.out, NB101_135.out, NB135_101.out, NB102_135.out, NB135_102.out, NB103_135.out, NB135_103.out, NB111_135.out, NB135_111.out, NB118_135.out, NB135_118.out, NB125_135.out, NB135_125.out, bel_⟩)
                  · skip
                    refine box_step ?hg (N := 15) ?hd (cs := #[.bool false, .int .u64 0, .int .u64 0]) (t := 24) ?hr ?_; (case hd => rfl); (case hg => rfl); (case hr => first | (go_simp; done) | (go_simp; rfl))
                    intro gb135 hg w80 hbox hb
                    have n0_ := Aside0.mk (blk_below (g := gb101) (o := .cells #[.bool a0_0, .int .u64 a0_1, .int .u64 a0_2] 24 (0, 0)) blk_ hb)
                    have n1_ := Aside0.mk (blk_below (g := gb102) (o := .cells #[.bool a1_0, .int .u64 a1_1, .int .u64 a1_2] 24 (0, 0)) blk_ hb)
                    have n2_ := Aside0.mk (blk_below (g := gb103) (o := .cells #[.bool a2_0, .int .u64 a2_1, .int .u64 a2_2] 24 (0, 0)) blk_ hb)
                    have n3_ := Aside0.mk (blk_below (g := gb111) (o := .cells #[.bool t108, .int .u64 t109, .int .u64 t110] 24 (0, 0)) blk_ hb)
                    have n4_ := Aside0.mk (blk_below (g := gb118) (o := .cells #[.bool t115, .int .u64 t116, .int .u64 t117] 24 (0, 0)) blk_ hb)
                    have n5_ := Aside0.mk (blk_below (g := gb125) (o := .cells #[.bool true, .int .u64 t123, .int .u64 t124] 24 (0, 0)) blk_ hb)
                    have n6_ := Aside0.mk (below_step bel_ hb)
                    have n7_ := Aside0.mk (hbox)
                    have n8_ := Aside0.mk ((by rw [hg]; exact (below_size bel_) : w.heap.size ≤ gb135))
                    have n9_ := Aside0.mk ((by rw [hg]; exact (below_size bel_) : w.heap.size ≤ gb135))
                    have n10_ := Aside0.mk ((by rw [hg]; exact Nat.ne_of_lt (blk_lt (g := gb101) (o := .cells #[.bool a0_0, .int .u64 a0_1, .int .u64 a0_2] 24 (0, 0)) blk_) : gb101 ≠ gb135))
                    have n11_ := Aside0.mk ((by rw [hg]; exact Nat.ne_of_gt (blk_lt (g := gb101) (o := .cells #[.bool a0_0, .int .u64 a0_1, .int .u64 a0_2] 24 (0, 0)) blk_) : gb135 ≠ gb101))
                    have n12_ := Aside0.mk ((by rw [hg]; exact Nat.ne_of_lt (blk_lt (g := gb102) (o := .cells #[.bool a1_0, .int .u64 a1_1, .int .u64 a1_2] 24 (0, 0)) blk_) : gb102 ≠ gb135))
                    have n13_ := Aside0.mk ((by rw [hg]; exact Nat.ne_of_gt (blk_lt (g := gb102) (o := .cells #[.bool a1_0, .int .u64 a1_1, .int .u64 a1_2] 24 (0, 0)) blk_) : gb135 ≠ gb102))
                    have n14_ := Aside0.mk ((by rw [hg]; exact Nat.ne_of_lt (blk_lt (g := gb103) (o := .cells #[.bool a2_0, .int .u64 a2_1, .int .u64 a2_2] 24 (0, 0)) blk_) : gb103 ≠ gb135))
                    have n15_ := Aside0.mk ((by rw [hg]; exact Nat.ne_of_gt (blk_lt (g := gb103) (o := .cells #[.bool a2_0, .int .u64 a2_1, .int .u64 a2_2] 24 (0, 0)) blk_) : gb135 ≠ gb103))
                    have n16_ := Aside0.mk ((by rw [hg]; exact Nat.ne_of_lt (blk_lt (g := gb111) (o := .cells #[.bool t108, .int .u64 t109, .int .u64 t110] 24 (0, 0)) blk_) : gb111 ≠ gb135))
                    have n17_ := Aside0.mk ((by rw [hg]; exact Nat.ne_of_gt (blk_lt (g := gb111) (o := .cells #[.bool t108, .int .u64 t109, .int .u64 t110] 24 (0, 0)) blk_) : gb135 ≠ gb111))
                    have n18_ := Aside0.mk ((by rw [hg]; exact Nat.ne_of_lt (blk_lt (g := gb118) (o := .cells #[.bool t115, .int .u64 t116, .int .u64 t117] 24 (0, 0)) blk_) : gb118 ≠ gb135))
                    have n19_ := Aside0.mk ((by rw [hg]; exact Nat.ne_of_gt (blk_lt (g := gb118) (o := .cells #[.bool t115, .int .u64 t116, .int .u64 t117] 24 (0, 0)) blk_) : gb135 ≠ gb118))
                    have n20_ := Aside0.mk ((by rw [hg]; exact Nat.ne_of_lt (blk_lt (g := gb125) (o := .cells #[.bool true, .int .u64 t123, .int .u64 t124] 24 (0, 0)) blk_) : gb125 ≠ gb135))
                    have n21_ := Aside0.mk ((by rw [hg]; exact Nat.ne_of_gt (blk_lt (g := gb125) (o := .cells #[.bool true, .int .u64 t123, .int .u64 t124] 24 (0, 0)) blk_) : gb135 ≠ gb125))
                    clear BK101
                    clear BK102
                    clear BK103
                    clear BK111
                    clear BK118
                    clear BK125
                    clear HB
                    have BK101 := n0_
                    have BK102 := n1_
                    have BK103 := n2_
                    have BK111 := n3_
                    have BK118 := n4_
                    have BK125 := n5_
                    have HB := n6_
                    have BK135 := n7_
                    have GW135 := n8_
                    have GE135 := n9_
                    have NB101_135 := n10_
                    have NB135_101 := n11_
                    have NB102_135 := n12_
                    have NB135_102 := n13_
                    have NB103_135 := n14_
                    have NB135_103 := n15_
                    have NB111_135 := n16_
                    have NB135_111 := n17_
                    have NB118_135 := n18_
                    have NB135_118 := n19_
                    have NB125_135 := n20_
                    have NB135_125 := n21_
                    clear n0_ n1_ n2_ n3_ n4_ n5_ n6_ n7_ n8_ n9_ n10_ n11_ n12_ n13_ n14_ n15_ n16_ n17_ n18_ n19_ n20_ n21_
                    clear hb hbox hg
                    refine hK.out _ _ ⟨(blk_cell BK101.out 0).trans rfl, (blk_cell BK101.out 1).trans rfl, (blk_cell BK101.out 2).trans rfl⟩ (fun hHeld => ?_)
                    clear hK K
                    refine norm_ (a' := ?_) ?_ ?_
                    rotate_left
                    · show Act.put _ (some 15) _ = _
                      simp only [Act.put, List.setIfInBounds_toArray, List.set_cons_zero, List.set_cons_succ, i64_w, i32_w]
                      rfl
                    refine one_ (i := 2) (N := some 48) #[true, true, true, true, true, false, false, true, false] rfl rfl (one_of HT_.out (by kernel_rfl)) (by decide) (fun K hK => ?_)
                    refine goes_ Try.func21 (by kernel_rfl) rfl #[.agg #[.bool a0_0, .int .u64 a0_1, .int .u64 a0_2], .int .u64 a3] (by rfl) rfl rfl lna_ ?_
                    with_reducible refine (curve_Mul.calls a0_0 a0_1 a0_2 a3 t126 t127 t128 _ A69.out).mono ?_
                    rintro e w81 ⟨rfl, hb⟩
                    refine ⟨_, rfl, ?_⟩
                    have n0_ := Aside0.mk (blk_below (g := gb101) (o := .cells #[.bool a0_0, .int .u64 a0_1, .int .u64 a0_2] 24 (0, 0)) blk_ hb)
                    have n1_ := Aside0.mk (blk_below (g := gb102) (o := .cells #[.bool a1_0, .int .u64 a1_1, .int .u64 a1_2] 24 (0, 0)) blk_ hb)
                    have n2_ := Aside0.mk (blk_below (g := gb103) (o := .cells #[.bool a2_0, .int .u64 a2_1, .int .u64 a2_2] 24 (0, 0)) blk_ hb)
                    have n3_ := Aside0.mk (blk_below (g := gb111) (o := .cells #[.bool t108, .int .u64 t109, .int .u64 t110] 24 (0, 0)) blk_ hb)
                    have n4_ := Aside0.mk (blk_below (g := gb118) (o := .cells #[.bool t115, .int .u64 t116, .int .u64 t117] 24 (0, 0)) blk_ hb)
                    have n5_ := Aside0.mk (blk_below (g := gb125) (o := .cells #[.bool true, .int .u64 t123, .int .u64 t124] 24 (0, 0)) blk_ hb)
                    have n6_ := Aside0.mk (blk_below (g := gb135) (o := .cells #[.bool false, .int .u64 0, .int .u64 0] 24 (0, 0)) blk_ hb)
                    have n7_ := Aside0.mk (below_step bel_ hb)
                    clear BK101
                    clear BK102
                    clear BK103
                    clear BK111
                    clear BK118
                    clear BK125
                    clear BK135
                    clear HB
                    have BK101 := n0_
                    have BK102 := n1_
                    have BK103 := n2_
                    have BK111 := n3_
                    have BK118 := n4_
                    have BK125 := n5_
                    have BK135 := n6_
                    have HB := n7_
                    clear n0_ n1_ n2_ n3_ n4_ n5_ n6_ n7_
                    (try clear hb)
                    (try clear hb2)
                    (try clear hk)
                    (try clear hi)
                    refine hK.out _ _ ⟨(blk_cell BK101.out 0).trans rfl, (blk_cell BK101.out 1).trans rfl, (blk_cell BK101.out 2).trans rfl⟩ (fun hHeld => ?_)
                    clear hK K
                    refine norm_ (a' := ?_) ?_ ?_
                    rotate_left
                    · show Act.put _ (some 48) _ = _
                      simp only [Act.put, List.setIfInBounds_toArray, List.set_cons_zero, List.set_cons_succ, i64_w, i32_w]
                      rfl
                    refine one_ (i := 5) (N := some 51) #[true, true, true, true, true, true, false, true, false] rfl rfl (one_of HT_.out (by kernel_rfl)) (by decide) (fun K hK => ?_)
                    refine goes_ Try.func21 (by kernel_rfl) rfl #[.agg #[.bool a0_0, .int .u64 a0_1, .int .u64 a0_2], .int .u64 a4] (by rfl) rfl rfl lna_ ?_
                    with_reducible refine (curve_Mul.calls a0_0 a0_1 a0_2 a4 t129 t130 t131 _ A70.out).mono ?_
                    rintro e w82 ⟨rfl, hb⟩
                    refine ⟨_, rfl, ?_⟩
                    have n0_ := Aside0.mk (blk_below (g := gb101) (o := .cells #[.bool a0_0, .int .u64 a0_1, .int .u64 a0_2] 24 (0, 0)) blk_ hb)
                    have n1_ := Aside0.mk (blk_below (g := gb102) (o := .cells #[.bool a1_0, .int .u64 a1_1, .int .u64 a1_2] 24 (0, 0)) blk_ hb)
                    have n2_ := Aside0.mk (blk_below (g := gb103) (o := .cells #[.bool a2_0, .int .u64 a2_1, .int .u64 a2_2] 24 (0, 0)) blk_ hb)
                    have n3_ := Aside0.mk (blk_below (g := gb111) (o := .cells #[.bool t108, .int .u64 t109, .int .u64 t110] 24 (0, 0)) blk_ hb)
                    have n4_ := Aside0.mk (blk_below (g := gb118) (o := .cells #[.bool t115, .int .u64 t116, .int .u64 t117] 24 (0, 0)) blk_ hb)
                    have n5_ := Aside0.mk (blk_below (g := gb125) (o := .cells #[.bool true, .int .u64 t123, .int .u64 t124] 24 (0, 0)) blk_ hb)
                    have n6_ := Aside0.mk (blk_below (g := gb135) (o := .cells #[.bool false, .int .u64 0, .int .u64 0] 24 (0, 0)) blk_ hb)
                    have n7_ := Aside0.mk (below_step bel_ hb)
                    clear BK101
                    clear BK102
                    clear BK103
                    clear BK111
                    clear BK118
                    clear BK125
                    clear BK135
                    clear HB
                    have BK101 := n0_
                    have BK102 := n1_
                    have BK103 := n2_
                    have BK111 := n3_
                    have BK118 := n4_
                    have BK125 := n5_
                    have BK135 := n6_
                    have HB := n7_
                    clear n0_ n1_ n2_ n3_ n4_ n5_ n6_ n7_
                    (try clear hb)
                    (try clear hb2)
                    (try clear hk)
                    (try clear hi)
                    refine hK.out _ _ ⟨(blk_cell BK101.out 0).trans rfl, (blk_cell BK101.out 1).trans rfl, (blk_cell BK101.out 2).trans rfl⟩ (fun hHeld => ?_)
                    clear hK K
                    refine norm_ (a' := ?_) ?_ ?_
                    rotate_left
                    · show Act.put _ (some 51) _ = _
                      simp only [Act.put, List.setIfInBounds_toArray, List.set_cons_zero, List.set_cons_succ, i64_w, i32_w]
                      rfl
                    refine one_ (i := 6) (N := some 52) #[true, true, true, true, true, true, true, true, false] rfl rfl (one_of HT_.out (by kernel_rfl)) (by decide) (fun K hK => ?_)
                    refine goes_ Try.func17 (by kernel_rfl) rfl #[.agg #[.bool t126, .int .u64 t127, .int .u64 t128], .agg #[.bool t129, .int .u64 t130, .int .u64 t131]] (by rfl) rfl rfl lna_ ?_
                    with_reducible refine (curve_Add.calls t126 t127 t128 t129 t130 t131 t132 t133 t134 _ A71.out).mono ?_
                    rintro e w83 ⟨rfl, hb⟩
                    refine ⟨_, rfl, ?_⟩
                    have n0_ := Aside0.mk (blk_below (g := gb101) (o := .cells #[.bool a0_0, .int .u64 a0_1, .int .u64 a0_2] 24 (0, 0)) blk_ hb)
                    have n1_ := Aside0.mk (blk_below (g := gb102) (o := .cells #[.bool a1_0, .int .u64 a1_1, .int .u64 a1_2] 24 (0, 0)) blk_ hb)
                    have n2_ := Aside0.mk (blk_below (g := gb103) (o := .cells #[.bool a2_0, .int .u64 a2_1, .int .u64 a2_2] 24 (0, 0)) blk_ hb)
                    have n3_ := Aside0.mk (blk_below (g := gb111) (o := .cells #[.bool t108, .int .u64 t109, .int .u64 t110] 24 (0, 0)) blk_ hb)
                    have n4_ := Aside0.mk (blk_below (g := gb118) (o := .cells #[.bool t115, .int .u64 t116, .int .u64 t117] 24 (0, 0)) blk_ hb)
                    have n5_ := Aside0.mk (blk_below (g := gb125) (o := .cells #[.bool true, .int .u64 t123, .int .u64 t124] 24 (0, 0)) blk_ hb)
                    have n6_ := Aside0.mk (blk_below (g := gb135) (o := .cells #[.bool false, .int .u64 0, .int .u64 0] 24 (0, 0)) blk_ hb)
                    have n7_ := Aside0.mk (below_step bel_ hb)
                    clear BK101
                    clear BK102
                    clear BK103
                    clear BK111
                    clear BK118
                    clear BK125
                    clear BK135
                    clear HB
                    have BK101 := n0_
                    have BK102 := n1_
                    have BK103 := n2_
                    have BK111 := n3_
                    have BK118 := n4_
                    have BK125 := n5_
                    have BK135 := n6_
                    have HB := n7_
                    clear n0_ n1_ n2_ n3_ n4_ n5_ n6_ n7_
                    (try clear hb)
                    (try clear hb2)
                    (try clear hk)
                    (try clear hi)
                    refine hK.out _ _ ⟨(blk_cell BK101.out 0).trans rfl, (blk_cell BK101.out 1).trans rfl, (blk_cell BK101.out 2).trans rfl⟩ (fun hHeld => ?_)
                    clear hK K
                    refine norm_ (a' := ?_) ?_ ?_
                    rotate_left
                    · show Act.put _ (some 52) _ = _
                      simp only [Act.put, List.setIfInBounds_toArray, List.set_cons_zero, List.set_cons_succ, i64_w, i32_w]
                      rfl
                    exact norm_ (by simp only [putAll, Act.put, List.setIfInBounds_toArray, List.set_cons_zero, List.set_cons_succ]) (hCont (gb135) _ ⟨hHeld, blk_, blk_, blk_, blk_, blk_, blk_, blk_, GW135.out, GE135.out, NB101_135.out, NB135_101.out, NB102_135.out, NB135_102.out, NB103_135.out, NB135_103.out, NB111_135.out, NB135_111.out, NB118_135.out, NB135_118.out, NB125_135.out, NB135_125.out, bel_⟩)
                rintro gb135 w84 ⟨hS_, h0_, h1_, h2_, h3_, h4_, h5_, h6_, h7_, h8_, h9_, h10_, h11_, h12_, h13_, h14_, h15_, h16_, h17_, h18_, h19_, h20_, h21_⟩
                have n0_ : Aside0 (w84.heap[gb101]? = some (.cells #[.bool a0_0, .int .u64 a0_1, .int .u64 a0_2] 24 (0, 0))) := ⟨h0_⟩
                have n1_ : Aside0 (w84.heap[gb102]? = some (.cells #[.bool a1_0, .int .u64 a1_1, .int .u64 a1_2] 24 (0, 0))) := ⟨h1_⟩
                have n2_ : Aside0 (w84.heap[gb103]? = some (.cells #[.bool a2_0, .int .u64 a2_1, .int .u64 a2_2] 24 (0, 0))) := ⟨h2_⟩
                have n3_ : Aside0 (w84.heap[gb111]? = some (.cells #[.bool t108, .int .u64 t109, .int .u64 t110] 24 (0, 0))) := ⟨h3_⟩
                have n4_ : Aside0 (w84.heap[gb118]? = some (.cells #[.bool t115, .int .u64 t116, .int .u64 t117] 24 (0, 0))) := ⟨h4_⟩
                have n5_ : Aside0 (w84.heap[gb125]? = some (.cells #[.bool true, .int .u64 t123, .int .u64 t124] 24 (0, 0))) := ⟨h5_⟩
                have n6_ : Aside0 (w84.heap[gb135]? = some (.cells #[.bool false, .int .u64 0, .int .u64 0] 24 (0, 0))) := ⟨h6_⟩
                have n7_ : Aside0 (w.heap.size ≤ gb135) := ⟨h7_⟩
                have n8_ : Aside0 (w.heap.size ≤ gb135) := ⟨h8_⟩
                have n9_ : Aside0 (gb101 ≠ gb135) := ⟨h9_⟩
                have n10_ : Aside0 (gb135 ≠ gb101) := ⟨h10_⟩
                have n11_ : Aside0 (gb102 ≠ gb135) := ⟨h11_⟩
                have n12_ : Aside0 (gb135 ≠ gb102) := ⟨h12_⟩
                have n13_ : Aside0 (gb103 ≠ gb135) := ⟨h13_⟩
                have n14_ : Aside0 (gb135 ≠ gb103) := ⟨h14_⟩
                have n15_ : Aside0 (gb111 ≠ gb135) := ⟨h15_⟩
                have n16_ : Aside0 (gb135 ≠ gb111) := ⟨h16_⟩
                have n17_ : Aside0 (gb118 ≠ gb135) := ⟨h17_⟩
                have n18_ : Aside0 (gb135 ≠ gb118) := ⟨h18_⟩
                have n19_ : Aside0 (gb125 ≠ gb135) := ⟨h19_⟩
                have n20_ : Aside0 (gb135 ≠ gb125) := ⟨h20_⟩
                have n21_ : Aside0 (Below w.heap.size w w84) := ⟨h21_⟩
                clear BK101
                clear BK102
                clear BK103
                clear BK111
                clear BK118
                clear BK125
                clear HB
                clear h0_ h1_ h2_ h3_ h4_ h5_ h6_ h7_ h8_ h9_ h10_ h11_ h12_ h13_ h14_ h15_ h16_ h17_ h18_ h19_ h20_ h21_
                have BK101 := n0_
                have BK102 := n1_
                have BK103 := n2_
                have BK111 := n3_
                have BK118 := n4_
                have BK125 := n5_
                have BK135 := n6_
                have GW135 := n7_
                have GE135 := n8_
                have NB101_135 := n9_
                have NB135_101 := n10_
                have NB102_135 := n11_
                have NB135_102 := n12_
                have NB103_135 := n13_
                have NB135_103 := n14_
                have NB111_135 := n15_
                have NB135_111 := n16_
                have NB118_135 := n17_
                have NB135_118 := n18_
                have NB125_135 := n19_
                have NB135_125 := n20_
                have HB := n21_
                clear n0_ n1_ n2_ n3_ n4_ n5_ n6_ n7_ n8_ n9_ n10_ n11_ n12_ n13_ n14_ n15_ n16_ n17_ n18_ n19_ n20_ n21_
                have hHeld : w84.cell? ⟨gb101, 0, none⟩ = some (.bool a0_0) ∧ w84.cell? ⟨gb101, 1, none⟩ = some (.int .u64 a0_1) ∧ w84.cell? ⟨gb101, 2, none⟩ = some (.int .u64 a0_2) := hS_
                refine norm_ (a' := ?_) ?_ ?_
                rotate_left
                · simp only [putAll, Act.put, List.setIfInBounds_toArray, List.set_cons_zero, List.set_cons_succ]
                  rfl
                refine one_ (i := 8) (N := none) #[true, true, true, true, true, true, true, true, true] rfl rfl (one_of HT_.out (by kernel_rfl)) (by decide) (fun K hK => ?_)
                have hs85 : w84.cell? ⟨gb135, 0, none⟩ = some (.bool false) := (blk_cell BK135.out 0).trans rfl
                have hfs85 := blk_frozen BK135.out 0
                have hns85_0 := NB101_135.out
                have hns85_1 := NB102_135.out
                have hns85_2 := NB103_135.out
                have hns85_3 := NB111_135.out
                have hns85_4 := NB118_135.out
                have hns85_5 := NB125_135.out
                have hms85_0 := NB135_101.out
                have hms85_1 := NB135_102.out
                have hms85_2 := NB135_103.out
                have hms85_3 := NB135_111.out
                have hms85_4 := NB135_118.out
                have hms85_5 := NB135_125.out
                have hs86 : w84.cell? ⟨gb135, 1, none⟩ = some (.int .u64 0) := (blk_cell BK135.out 1).trans rfl
                have hfs86 := blk_frozen BK135.out 1
                have hns86_0 := NB101_135.out
                have hns86_1 := NB102_135.out
                have hns86_2 := NB103_135.out
                have hns86_3 := NB111_135.out
                have hns86_4 := NB118_135.out
                have hns86_5 := NB125_135.out
                have hms86_0 := NB135_101.out
                have hms86_1 := NB135_102.out
                have hms86_2 := NB135_103.out
                have hms86_3 := NB135_111.out
                have hms86_4 := NB135_118.out
                have hms86_5 := NB135_125.out
                have hs87 : w84.cell? ⟨gb135, 2, none⟩ = some (.int .u64 0) := (blk_cell BK135.out 2).trans rfl
                have hfs87 := blk_frozen BK135.out 2
                have hns87_0 := NB101_135.out
                have hns87_1 := NB102_135.out
                have hns87_2 := NB103_135.out
                have hns87_3 := NB111_135.out
                have hns87_4 := NB118_135.out
                have hns87_5 := NB125_135.out
                have hms87_0 := NB135_101.out
                have hms87_1 := NB135_102.out
                have hms87_2 := NB135_103.out
                have hms87_3 := NB135_111.out
                have hms87_4 := NB135_118.out
                have hms87_5 := NB135_125.out
                refine skip_ (w1 := ?_) (by rfl) rfl ?_ ?_
                rotate_left
                · go_simp
                  rfl
                refine hK.out _ _ ⟨((cell_far (p := ⟨gb135, _, none⟩) NB101_135.out _).trans (((cell_far (p := ⟨gb135, _, none⟩) NB101_135.out _).trans (((cell_far (p := ⟨gb135, _, none⟩) NB101_135.out _).trans (hHeld.1)))))), ((cell_far (p := ⟨gb135, _, none⟩) NB101_135.out _).trans (((cell_far (p := ⟨gb135, _, none⟩) NB101_135.out _).trans (((cell_far (p := ⟨gb135, _, none⟩) NB101_135.out _).trans (hHeld.2.1)))))), ((cell_far (p := ⟨gb135, _, none⟩) NB101_135.out _).trans (((cell_far (p := ⟨gb135, _, none⟩) NB101_135.out _).trans (((cell_far (p := ⟨gb135, _, none⟩) NB101_135.out _).trans (hHeld.2.2))))))⟩ (fun hHeld => ?_)
                clear hK K
                refine done_ (done_of HT_.out (by kernel_rfl)) ?_
                try go_wp2
                have n0_ : Aside0 ((((w84.setCell ⟨gb135, 0, none⟩ (.bool t132)).setCell ⟨gb135, 1, none⟩ (.int .u64 t133)).setCell ⟨gb135, 2, none⟩ (.int .u64 t134)).heap[gb101]? = some (.cells #[.bool a0_0, .int .u64 a0_1, .int .u64 a0_2] 24 (0, 0))) := ⟨by (with_reducible repeat (first | refine blk_drewN ?_ _ | refine blk_drew ?_ | refine blk_alloc ?_ _)); refine blk_far ?_ NB101_135.out _; (with_reducible repeat (first | refine blk_drewN ?_ _ | refine blk_drew ?_ | refine blk_alloc ?_ _)); refine blk_far ?_ NB101_135.out _; (with_reducible repeat (first | refine blk_drewN ?_ _ | refine blk_drew ?_ | refine blk_alloc ?_ _)); refine blk_far ?_ NB101_135.out _; exact blk_⟩
                have n1_ : Aside0 ((((w84.setCell ⟨gb135, 0, none⟩ (.bool t132)).setCell ⟨gb135, 1, none⟩ (.int .u64 t133)).setCell ⟨gb135, 2, none⟩ (.int .u64 t134)).heap[gb102]? = some (.cells #[.bool a1_0, .int .u64 a1_1, .int .u64 a1_2] 24 (0, 0))) := ⟨by (with_reducible repeat (first | refine blk_drewN ?_ _ | refine blk_drew ?_ | refine blk_alloc ?_ _)); refine blk_far ?_ NB102_135.out _; (with_reducible repeat (first | refine blk_drewN ?_ _ | refine blk_drew ?_ | refine blk_alloc ?_ _)); refine blk_far ?_ NB102_135.out _; (with_reducible repeat (first | refine blk_drewN ?_ _ | refine blk_drew ?_ | refine blk_alloc ?_ _)); refine blk_far ?_ NB102_135.out _; exact blk_⟩
                have n2_ : Aside0 ((((w84.setCell ⟨gb135, 0, none⟩ (.bool t132)).setCell ⟨gb135, 1, none⟩ (.int .u64 t133)).setCell ⟨gb135, 2, none⟩ (.int .u64 t134)).heap[gb103]? = some (.cells #[.bool a2_0, .int .u64 a2_1, .int .u64 a2_2] 24 (0, 0))) := ⟨by (with_reducible repeat (first | refine blk_drewN ?_ _ | refine blk_drew ?_ | refine blk_alloc ?_ _)); refine blk_far ?_ NB103_135.out _; (with_reducible repeat (first | refine blk_drewN ?_ _ | refine blk_drew ?_ | refine blk_alloc ?_ _)); refine blk_far ?_ NB103_135.out _; (with_reducible repeat (first | refine blk_drewN ?_ _ | refine blk_drew ?_ | refine blk_alloc ?_ _)); refine blk_far ?_ NB103_135.out _; exact blk_⟩
                have n3_ : Aside0 ((((w84.setCell ⟨gb135, 0, none⟩ (.bool t132)).setCell ⟨gb135, 1, none⟩ (.int .u64 t133)).setCell ⟨gb135, 2, none⟩ (.int .u64 t134)).heap[gb111]? = some (.cells #[.bool t108, .int .u64 t109, .int .u64 t110] 24 (0, 0))) := ⟨by (with_reducible repeat (first | refine blk_drewN ?_ _ | refine blk_drew ?_ | refine blk_alloc ?_ _)); refine blk_far ?_ NB111_135.out _; (with_reducible repeat (first | refine blk_drewN ?_ _ | refine blk_drew ?_ | refine blk_alloc ?_ _)); refine blk_far ?_ NB111_135.out _; (with_reducible repeat (first | refine blk_drewN ?_ _ | refine blk_drew ?_ | refine blk_alloc ?_ _)); refine blk_far ?_ NB111_135.out _; exact blk_⟩
                have n4_ : Aside0 ((((w84.setCell ⟨gb135, 0, none⟩ (.bool t132)).setCell ⟨gb135, 1, none⟩ (.int .u64 t133)).setCell ⟨gb135, 2, none⟩ (.int .u64 t134)).heap[gb118]? = some (.cells #[.bool t115, .int .u64 t116, .int .u64 t117] 24 (0, 0))) := ⟨by (with_reducible repeat (first | refine blk_drewN ?_ _ | refine blk_drew ?_ | refine blk_alloc ?_ _)); refine blk_far ?_ NB118_135.out _; (with_reducible repeat (first | refine blk_drewN ?_ _ | refine blk_drew ?_ | refine blk_alloc ?_ _)); refine blk_far ?_ NB118_135.out _; (with_reducible repeat (first | refine blk_drewN ?_ _ | refine blk_drew ?_ | refine blk_alloc ?_ _)); refine blk_far ?_ NB118_135.out _; exact blk_⟩
                have n5_ : Aside0 ((((w84.setCell ⟨gb135, 0, none⟩ (.bool t132)).setCell ⟨gb135, 1, none⟩ (.int .u64 t133)).setCell ⟨gb135, 2, none⟩ (.int .u64 t134)).heap[gb125]? = some (.cells #[.bool true, .int .u64 t123, .int .u64 t124] 24 (0, 0))) := ⟨by (with_reducible repeat (first | refine blk_drewN ?_ _ | refine blk_drew ?_ | refine blk_alloc ?_ _)); refine blk_far ?_ NB125_135.out _; (with_reducible repeat (first | refine blk_drewN ?_ _ | refine blk_drew ?_ | refine blk_alloc ?_ _)); refine blk_far ?_ NB125_135.out _; (with_reducible repeat (first | refine blk_drewN ?_ _ | refine blk_drew ?_ | refine blk_alloc ?_ _)); refine blk_far ?_ NB125_135.out _; exact blk_⟩
                have n6_ : Aside0 ((((w84.setCell ⟨gb135, 0, none⟩ (.bool t132)).setCell ⟨gb135, 1, none⟩ (.int .u64 t133)).setCell ⟨gb135, 2, none⟩ (.int .u64 t134)).heap[gb135]? = some (.cells #[.bool t132, .int .u64 t133, .int .u64 t134] 24 (0, 0))) := ⟨by (with_reducible repeat (first | refine blk_drewN ?_ _ | refine blk_drew ?_ | refine blk_alloc ?_ _)); refine blk_put (cs := #[.bool t132, .int .u64 t133, .int .u64 0]) ?_ 2 _ rfl; (with_reducible repeat (first | refine blk_drewN ?_ _ | refine blk_drew ?_ | refine blk_alloc ?_ _)); refine blk_put (cs := #[.bool t132, .int .u64 0, .int .u64 0]) ?_ 1 _ rfl; (with_reducible repeat (first | refine blk_drewN ?_ _ | refine blk_drew ?_ | refine blk_alloc ?_ _)); refine blk_put (cs := #[.bool false, .int .u64 0, .int .u64 0]) ?_ 0 _ rfl; exact blk_⟩
                have n7_ : Aside0 (Below w.heap.size w (((w84.setCell ⟨gb135, 0, none⟩ (.bool t132)).setCell ⟨gb135, 1, none⟩ (.int .u64 t133)).setCell ⟨gb135, 2, none⟩ (.int .u64 t134))) := ⟨bel_⟩
                (try clear BK101)
                (try clear BK102)
                (try clear BK103)
                (try clear BK111)
                (try clear BK118)
                (try clear BK125)
                (try clear BK135)
                (try clear HB)
                generalize (((w84.setCell ⟨gb135, 0, none⟩ (.bool t132)).setCell ⟨gb135, 1, none⟩ (.int .u64 t133)).setCell ⟨gb135, 2, none⟩ (.int .u64 t134)) = w88 at n0_ n1_ n2_ n3_ n4_ n5_ n6_ n7_ ⊢
                have BK101 := n0_
                have BK102 := n1_
                have BK103 := n2_
                have BK111 := n3_
                have BK118 := n4_
                have BK125 := n5_
                have BK135 := n6_
                have HB := n7_
                clear n0_ n1_ n2_ n3_ n4_ n5_ n6_ n7_
                (repeat rw [World.drewN_drewN])
                (try (rw [drewN_self w88]; generalize hq_ : World.drewN w88 _ = w88; have n0_ : Aside0 (w88.heap[gb101]? = some (.cells #[.bool a0_0, .int .u64 a0_1, .int .u64 a0_2] 24 (0, 0))) := ⟨by rw [← hq_]; exact blk_⟩; have n1_ : Aside0 (w88.heap[gb102]? = some (.cells #[.bool a1_0, .int .u64 a1_1, .int .u64 a1_2] 24 (0, 0))) := ⟨by rw [← hq_]; exact blk_⟩; have n2_ : Aside0 (w88.heap[gb103]? = some (.cells #[.bool a2_0, .int .u64 a2_1, .int .u64 a2_2] 24 (0, 0))) := ⟨by rw [← hq_]; exact blk_⟩; have n3_ : Aside0 (w88.heap[gb111]? = some (.cells #[.bool t108, .int .u64 t109, .int .u64 t110] 24 (0, 0))) := ⟨by rw [← hq_]; exact blk_⟩; have n4_ : Aside0 (w88.heap[gb118]? = some (.cells #[.bool t115, .int .u64 t116, .int .u64 t117] 24 (0, 0))) := ⟨by rw [← hq_]; exact blk_⟩; have n5_ : Aside0 (w88.heap[gb125]? = some (.cells #[.bool true, .int .u64 t123, .int .u64 t124] 24 (0, 0))) := ⟨by rw [← hq_]; exact blk_⟩; have n6_ : Aside0 (w88.heap[gb135]? = some (.cells #[.bool t132, .int .u64 t133, .int .u64 t134] 24 (0, 0))) := ⟨by rw [← hq_]; exact blk_⟩; have n7_ : Aside0 (Below w.heap.size w w88) := ⟨by rw [← hq_]; exact bel_⟩; clear BK101 BK102 BK103 BK111 BK118 BK125 BK135 HB hq_; have BK101 := n0_; have BK102 := n1_; have BK103 := n2_; have BK111 := n3_; have BK118 := n4_; have BK125 := n5_; have BK135 := n6_; have HB := n7_; clear n0_ n1_ n2_ n3_ n4_ n5_ n6_ n7_))
                have n0_ := Aside0.mk (blk_drew BK101.out)
                have n1_ := Aside0.mk (blk_drew BK102.out)
                have n2_ := Aside0.mk (blk_drew BK103.out)
                have n3_ := Aside0.mk (blk_drew BK111.out)
                have n4_ := Aside0.mk (blk_drew BK118.out)
                have n5_ := Aside0.mk (blk_drew BK125.out)
                have n6_ := Aside0.mk (blk_drew BK135.out)
                have n7_ := Aside0.mk (below_drew1 HB.out)
                clear BK101
                clear BK102
                clear BK103
                clear BK111
                clear BK118
                clear BK125
                clear BK135
                clear HB
                have BK101 := n0_
                have BK102 := n1_
                have BK103 := n2_
                have BK111 := n3_
                have BK118 := n4_
                have BK125 := n5_
                have BK135 := n6_
                have HB := n7_
                clear n0_ n1_ n2_ n3_ n4_ n5_ n6_ n7_
                refine start_ (n := 29) (S := fun w' => w'.cell? ⟨gb111, 0, none⟩ = some (.bool t108) ∧ w'.cell? ⟨gb111, 1, none⟩ = some (.int .u64 t109) ∧ w'.cell? ⟨gb111, 2, none⟩ = some (.int .u64 t110) ∧ w'.cell? ⟨gb118, 0, none⟩ = some (.bool t115) ∧ w'.cell? ⟨gb118, 1, none⟩ = some (.int .u64 t116) ∧ w'.cell? ⟨gb118, 2, none⟩ = some (.int .u64 t117) ∧ w'.cell? ⟨gb125, 0, none⟩ = some (.bool true) ∧ w'.cell? ⟨gb125, 1, none⟩ = some (.int .u64 t123) ∧ w'.cell? ⟨gb125, 2, none⟩ = some (.int .u64 t124) ∧ w'.cell? ⟨gb135, 0, none⟩ = some (.bool t132) ∧ w'.cell? ⟨gb135, 1, none⟩ = some (.int .u64 t133) ∧ w'.cell? ⟨gb135, 2, none⟩ = some (.int .u64 t134) ∧ w'.cell? ⟨gb101, 0, none⟩ = some (.bool a0_0) ∧ w'.cell? ⟨gb101, 1, none⟩ = some (.int .u64 a0_1) ∧ w'.cell? ⟨gb101, 2, none⟩ = some (.int .u64 a0_2) ∧ w'.cell? ⟨gb102, 0, none⟩ = some (.bool a1_0) ∧ w'.cell? ⟨gb102, 1, none⟩ = some (.int .u64 a1_1) ∧ w'.cell? ⟨gb102, 2, none⟩ = some (.int .u64 a1_2)) (ds := []) #[false, false, false, false, false, false, false, false, false, false, false, false, false, false, false, false, false, false, false, false, false, false, false, false, false, false, false, false, false] (by kernel_rfl) rfl rfl ⟨(blk_cell BK111.out 0).trans rfl, (blk_cell BK111.out 1).trans rfl, (blk_cell BK111.out 2).trans rfl, (blk_cell BK118.out 0).trans rfl, (blk_cell BK118.out 1).trans rfl, (blk_cell BK118.out 2).trans rfl, (blk_cell BK125.out 0).trans rfl, (blk_cell BK125.out 1).trans rfl, (blk_cell BK125.out 2).trans rfl, (blk_cell BK135.out 0).trans rfl, (blk_cell BK135.out 1).trans rfl, (blk_cell BK135.out 2).trans rfl, (blk_cell BK101.out 0).trans rfl, (blk_cell BK101.out 1).trans rfl, (blk_cell BK101.out 2).trans rfl, (blk_cell BK102.out 0).trans rfl, (blk_cell BK102.out 1).trans rfl, (blk_cell BK102.out 2).trans rfl⟩ (fun hHeld => ?_); refine with_tabW obollaw03_CurveGroup.tab8 obollaw03_CurveGroup.bits8 (fun HT_ HW_ => ?_)
                generalize w88.drew = w89 at BK101 BK102 BK103 BK111 BK118 BK125 BK135 HB hHeld ⊢
                refine pure_ (i := 0) (N := some 53) (v := ?_) (a' := ?_) #[true, false, false, false, false, false, false, false, false, false, false, false, false, false, false, false, false, false, false, false, false, false, false, false, false, false, false, false, false] rfl rfl (any_of HT_.out (by kernel_rfl)) (fun _ _ _ h => h) (Or.inl ⟨by rfl, ?_⟩) ?_ ?_
                rotate_left
                · intro w'
                  go_simp
                  with_reducible rfl
                rotate_left
                · simp only [Act.put, List.setIfInBounds_toArray, List.set_cons_zero, List.set_cons_succ, i64_w, i32_w]
                  rfl
                refine pure_ (i := 1) (N := some 54) (v := ?_) (a' := ?_) #[true, true, false, false, false, false, false, false, false, false, false, false, false, false, false, false, false, false, false, false, false, false, false, false, false, false, false, false, false] rfl rfl (any_of HT_.out (by kernel_rfl)) (fun _ _ _ h => h) (Or.inl ⟨by rfl, ?_⟩) ?_ ?_
                rotate_left
                · intro w'
                  go_simp
                  with_reducible rfl
                rotate_left
                · simp only [Act.put, List.setIfInBounds_toArray, List.set_cons_zero, List.set_cons_succ, i64_w, i32_w]
                  rfl
                refine take_ (i := 2) (N := some 55) (v := ?_) (a' := ?_) #[true, true, true, false, false, false, false, false, false, false, false, false, false, false, false, false, false, false, false, false, false, false, false, false, false, false, false, false, false] rfl rfl (take_ofW HT_.out HW_.out (by kernel_rfl)) (fun _ _ _ h => h) (Or.inl ⟨by rfl, ?_⟩) hHeld ?_ ?_
                rotate_left
                · rintro w' ⟨s0, s1, s2, s3, s4, s5, s6, s7, s8, s9, s10, s11, s12, s13, s14, s15, s16, s17⟩
                  go_simp
                  with_reducible rfl
                rotate_left
                · simp only [Act.put, List.setIfInBounds_toArray, List.set_cons_zero, List.set_cons_succ, i64_w, i32_w]
                  rfl
                refine take_ (i := 3) (N := some 56) (v := ?_) (a' := ?_) #[true, true, true, true, false, false, false, false, false, false, false, false, false, false, false, false, false, false, false, false, false, false, false, false, false, false, false, false, false] rfl rfl (take_ofW HT_.out HW_.out (by kernel_rfl)) (fun _ _ _ h => h) (Or.inl ⟨by rfl, ?_⟩) hHeld ?_ ?_
                rotate_left
                · rintro w' ⟨s0, s1, s2, s3, s4, s5, s6, s7, s8, s9, s10, s11, s12, s13, s14, s15, s16, s17⟩
                  go_simp
                  with_reducible rfl
                rotate_left
                · simp only [Act.put, List.setIfInBounds_toArray, List.set_cons_zero, List.set_cons_succ, i64_w, i32_w]
                  rfl
                refine pure_ (i := 4) (N := some 57) (v := ?_) (a' := ?_) #[true, true, true, true, true, false, false, false, false, false, false, false, false, false, false, false, false, false, false, false, false, false, false, false, false, false, false, false, false] rfl rfl (any_of HT_.out (by kernel_rfl)) (fun _ _ _ h => h) (Or.inl ⟨by rfl, ?_⟩) ?_ ?_
                rotate_left
                · intro w'
                  go_simp
                  with_reducible rfl
                rotate_left
                · simp only [Act.put, List.setIfInBounds_toArray, List.set_cons_zero, List.set_cons_succ, i64_w, i32_w]
                  rfl
                refine pure_ (i := 5) (N := some 58) (v := ?_) (a' := ?_) #[true, true, true, true, true, true, false, false, false, false, false, false, false, false, false, false, false, false, false, false, false, false, false, false, false, false, false, false, false] rfl rfl (any_of HT_.out (by kernel_rfl)) (fun _ _ _ h => h) (Or.inl ⟨by rfl, ?_⟩) ?_ ?_
                rotate_left
                · intro w'
                  go_simp
                  with_reducible rfl
                rotate_left
                · simp only [Act.put, List.setIfInBounds_toArray, List.set_cons_zero, List.set_cons_succ, i64_w, i32_w]
                  rfl
                refine pure_ (i := 6) (N := some 59) (v := ?_) (a' := ?_) #[true, true, true, true, true, true, true, false, false, false, false, false, false, false, false, false, false, false, false, false, false, false, false, false, false, false, false, false, false] rfl rfl (any_of HT_.out (by kernel_rfl)) (fun _ _ _ h => h) (Or.inl ⟨by rfl, ?_⟩) ?_ ?_
                rotate_left
                · intro w'
                  go_simp
                  with_reducible rfl
                rotate_left
                · simp only [Act.put, List.setIfInBounds_toArray, List.set_cons_zero, List.set_cons_succ, i64_w, i32_w]
                  rfl
                refine pure_ (i := 7) (N := some 60) (v := ?_) (a' := ?_) #[true, true, true, true, true, true, true, true, false, false, false, false, false, false, false, false, false, false, false, false, false, false, false, false, false, false, false, false, false] rfl rfl (any_of HT_.out (by kernel_rfl)) (fun _ _ _ h => h) (Or.inl ⟨by rfl, ?_⟩) ?_ ?_
                rotate_left
                · intro w'
                  go_simp
                  with_reducible rfl
                rotate_left
                · simp only [Act.put, List.setIfInBounds_toArray, List.set_cons_zero, List.set_cons_succ, i64_w, i32_w]
                  rfl
                refine take_ (i := 8) (N := some 61) (v := ?_) (a' := ?_) #[true, true, true, true, true, true, true, true, true, false, false, false, false, false, false, false, false, false, false, false, false, false, false, false, false, false, false, false, false] rfl rfl (take_ofW HT_.out HW_.out (by kernel_rfl)) (fun _ _ _ h => h) (Or.inl ⟨by rfl, ?_⟩) hHeld ?_ ?_
                rotate_left
                · rintro w' ⟨s0, s1, s2, s3, s4, s5, s6, s7, s8, s9, s10, s11, s12, s13, s14, s15, s16, s17⟩
                  go_simp
                  with_reducible rfl
                rotate_left
                · simp only [Act.put, List.setIfInBounds_toArray, List.set_cons_zero, List.set_cons_succ, i64_w, i32_w]
                  rfl
                refine pure_ (i := 9) (N := some 62) (v := ?_) (a' := ?_) #[true, true, true, true, true, true, true, true, true, true, false, false, false, false, false, false, false, false, false, false, false, false, false, false, false, false, false, false, false] rfl rfl (any_of HT_.out (by kernel_rfl)) (fun _ _ _ h => h) (Or.inl ⟨by rfl, ?_⟩) ?_ ?_
                rotate_left
                · intro w'
                  go_simp
                  with_reducible rfl
                rotate_left
                · simp only [Act.put, List.setIfInBounds_toArray, List.set_cons_zero, List.set_cons_succ, i64_w, i32_w]
                  rfl
                refine pure_ (i := 10) (N := some 63) (v := ?_) (a' := ?_) #[true, true, true, true, true, true, true, true, true, true, true, false, false, false, false, false, false, false, false, false, false, false, false, false, false, false, false, false, false] rfl rfl (any_of HT_.out (by kernel_rfl)) (fun _ _ _ h => h) (Or.inl ⟨by rfl, ?_⟩) ?_ ?_
                rotate_left
                · intro w'
                  go_simp
                  with_reducible rfl
                rotate_left
                · simp only [Act.put, List.setIfInBounds_toArray, List.set_cons_zero, List.set_cons_succ, i64_w, i32_w]
                  rfl
                refine pure_ (i := 13) (N := some 66) (v := ?_) (a' := ?_) #[true, true, true, true, true, true, true, true, true, true, true, false, false, true, false, false, false, false, false, false, false, false, false, false, false, false, false, false, false] rfl rfl (any_of HT_.out (by kernel_rfl)) (fun _ _ _ h => h) (Or.inl ⟨by rfl, ?_⟩) ?_ ?_
                rotate_left
                · intro w'
                  go_simp
                  with_reducible rfl
                rotate_left
                · simp only [Act.put, List.setIfInBounds_toArray, List.set_cons_zero, List.set_cons_succ, i64_w, i32_w]
                  rfl
                refine pure_ (i := 14) (N := some 67) (v := ?_) (a' := ?_) #[true, true, true, true, true, true, true, true, true, true, true, false, false, true, true, false, false, false, false, false, false, false, false, false, false, false, false, false, false] rfl rfl (any_of HT_.out (by kernel_rfl)) (fun _ _ _ h => h) (Or.inl ⟨by rfl, ?_⟩) ?_ ?_
                rotate_left
                · intro w'
                  go_simp
                  with_reducible rfl
                rotate_left
                · simp only [Act.put, List.setIfInBounds_toArray, List.set_cons_zero, List.set_cons_succ, i64_w, i32_w]
                  rfl
                refine pure_ (i := 15) (N := some 68) (v := ?_) (a' := ?_) #[true, true, true, true, true, true, true, true, true, true, true, false, false, true, true, true, false, false, false, false, false, false, false, false, false, false, false, false, false] rfl rfl (any_of HT_.out (by kernel_rfl)) (fun _ _ _ h => h) (Or.inl ⟨by rfl, ?_⟩) ?_ ?_
                rotate_left
                · intro w'
                  go_simp
                  with_reducible rfl
                rotate_left
                · simp only [Act.put, List.setIfInBounds_toArray, List.set_cons_zero, List.set_cons_succ, i64_w, i32_w]
                  rfl
                refine take_ (i := 11) (N := some 64) (v := ?_) (a' := ?_) #[true, true, true, true, true, true, true, true, true, true, true, true, false, true, true, true, false, false, false, false, false, false, false, false, false, false, false, false, false] rfl rfl (take_ofW HT_.out HW_.out (by kernel_rfl)) (fun _ _ _ h => h) (Or.inl ⟨by rfl, ?_⟩) hHeld ?_ ?_
                rotate_left
                · rintro w' ⟨s0, s1, s2, s3, s4, s5, s6, s7, s8, s9, s10, s11, s12, s13, s14, s15, s16, s17⟩
                  go_simp
                  with_reducible rfl
                rotate_left
                · simp only [Act.put, List.setIfInBounds_toArray, List.set_cons_zero, List.set_cons_succ, i64_w, i32_w]
                  rfl
                refine take_ (i := 12) (N := some 65) (v := ?_) (a' := ?_) #[true, true, true, true, true, true, true, true, true, true, true, true, true, true, true, true, false, false, false, false, false, false, false, false, false, false, false, false, false] rfl rfl (take_ofW HT_.out HW_.out (by kernel_rfl)) (fun _ _ _ h => h) (Or.inl ⟨by rfl, ?_⟩) hHeld ?_ ?_
                rotate_left
                · rintro w' ⟨s0, s1, s2, s3, s4, s5, s6, s7, s8, s9, s10, s11, s12, s13, s14, s15, s16, s17⟩
                  go_simp
                  with_reducible rfl
                rotate_left
                · simp only [Act.put, List.setIfInBounds_toArray, List.set_cons_zero, List.set_cons_succ, i64_w, i32_w]
                  rfl
                refine one_ (i := 16) (N := some 69) #[true, true, true, true, true, true, true, true, true, true, true, true, true, true, true, true, true, false, false, false, false, false, false, false, false, false, false, false, false] rfl rfl (one_of HT_.out (by kernel_rfl)) (by decide) (fun K hK => ?_)
                refine goes_ Try.func21 (by kernel_rfl) rfl #[.agg #[.bool a0_0, .int .u64 a0_1, .int .u64 a0_2], .int .u64 (IntKind.u64.wrap (a3 + a4))] (by rfl) rfl rfl lna_ ?_
                with_reducible refine (curve_Mul.calls a0_0 a0_1 a0_2 (IntKind.u64.wrap (a3 + a4)) t136 t137 t138 _ A75.out).mono ?_
                rintro e w90 ⟨rfl, hb⟩
                refine ⟨_, rfl, ?_⟩
                have n0_ := Aside0.mk (blk_below (g := gb101) (o := .cells #[.bool a0_0, .int .u64 a0_1, .int .u64 a0_2] 24 (0, 0)) blk_ hb)
                have n1_ := Aside0.mk (blk_below (g := gb102) (o := .cells #[.bool a1_0, .int .u64 a1_1, .int .u64 a1_2] 24 (0, 0)) blk_ hb)
                have n2_ := Aside0.mk (blk_below (g := gb103) (o := .cells #[.bool a2_0, .int .u64 a2_1, .int .u64 a2_2] 24 (0, 0)) blk_ hb)
                have n3_ := Aside0.mk (blk_below (g := gb111) (o := .cells #[.bool t108, .int .u64 t109, .int .u64 t110] 24 (0, 0)) blk_ hb)
                have n4_ := Aside0.mk (blk_below (g := gb118) (o := .cells #[.bool t115, .int .u64 t116, .int .u64 t117] 24 (0, 0)) blk_ hb)
                have n5_ := Aside0.mk (blk_below (g := gb125) (o := .cells #[.bool true, .int .u64 t123, .int .u64 t124] 24 (0, 0)) blk_ hb)
                have n6_ := Aside0.mk (blk_below (g := gb135) (o := .cells #[.bool t132, .int .u64 t133, .int .u64 t134] 24 (0, 0)) blk_ hb)
                have n7_ := Aside0.mk (below_step bel_ hb)
                clear BK101
                clear BK102
                clear BK103
                clear BK111
                clear BK118
                clear BK125
                clear BK135
                clear HB
                have BK101 := n0_
                have BK102 := n1_
                have BK103 := n2_
                have BK111 := n3_
                have BK118 := n4_
                have BK125 := n5_
                have BK135 := n6_
                have HB := n7_
                clear n0_ n1_ n2_ n3_ n4_ n5_ n6_ n7_
                (try clear hb)
                (try clear hb2)
                (try clear hk)
                (try clear hi)
                refine hK.out _ _ ⟨(blk_cell BK111.out 0).trans rfl, (blk_cell BK111.out 1).trans rfl, (blk_cell BK111.out 2).trans rfl, (blk_cell BK118.out 0).trans rfl, (blk_cell BK118.out 1).trans rfl, (blk_cell BK118.out 2).trans rfl, (blk_cell BK125.out 0).trans rfl, (blk_cell BK125.out 1).trans rfl, (blk_cell BK125.out 2).trans rfl, (blk_cell BK135.out 0).trans rfl, (blk_cell BK135.out 1).trans rfl, (blk_cell BK135.out 2).trans rfl, (blk_cell BK101.out 0).trans rfl, (blk_cell BK101.out 1).trans rfl, (blk_cell BK101.out 2).trans rfl, (blk_cell BK102.out 0).trans rfl, (blk_cell BK102.out 1).trans rfl, (blk_cell BK102.out 2).trans rfl⟩ (fun hHeld => ?_)
                clear hK K
                refine norm_ (a' := ?_) ?_ ?_
                rotate_left
                · show Act.put _ (some 69) _ = _
                  simp only [Act.put, List.setIfInBounds_toArray, List.set_cons_zero, List.set_cons_succ, i64_w, i32_w]
                  rfl
                refine pure_ (i := 17) (N := some 70) (v := ?_) (a' := ?_) #[true, true, true, true, true, true, true, true, true, true, true, true, true, true, true, true, true, true, false, false, false, false, false, false, false, false, false, false, false] rfl rfl (any_of HT_.out (by kernel_rfl)) (fun _ _ _ h => h) (Or.inl ⟨by rfl, ?_⟩) ?_ ?_
                rotate_left
                · intro w'
                  go_simp
                  with_reducible rfl
                rotate_left
                · simp only [Act.put, List.setIfInBounds_toArray, List.set_cons_zero, List.set_cons_succ, i64_w, i32_w]
                  rfl
                refine pure_ (i := 18) (N := some 71) (v := ?_) (a' := ?_) #[true, true, true, true, true, true, true, true, true, true, true, true, true, true, true, true, true, true, true, false, false, false, false, false, false, false, false, false, false] rfl rfl (any_of HT_.out (by kernel_rfl)) (fun _ _ _ h => h) (Or.inl ⟨by rfl, ?_⟩) ?_ ?_
                rotate_left
                · intro w'
                  go_simp
                  with_reducible rfl
                rotate_left
                · simp only [Act.put, List.setIfInBounds_toArray, List.set_cons_zero, List.set_cons_succ, i64_w, i32_w]
                  rfl
                refine pure_ (i := 19) (N := some 72) (v := ?_) (a' := ?_) #[true, true, true, true, true, true, true, true, true, true, true, true, true, true, true, true, true, true, true, true, false, false, false, false, false, false, false, false, false] rfl rfl (any_of HT_.out (by kernel_rfl)) (fun _ _ _ h => h) (Or.inl ⟨by rfl, ?_⟩) ?_ ?_
                rotate_left
                · intro w'
                  go_simp
                  with_reducible rfl
                rotate_left
                · simp only [Act.put, List.setIfInBounds_toArray, List.set_cons_zero, List.set_cons_succ, i64_w, i32_w]
                  rfl
                refine take_ (i := 20) (N := some 73) (v := ?_) (a' := ?_) #[true, true, true, true, true, true, true, true, true, true, true, true, true, true, true, true, true, true, true, true, true, false, false, false, false, false, false, false, false] rfl rfl (take_ofW HT_.out HW_.out (by kernel_rfl)) (fun _ _ _ h => h) (Or.inl ⟨by rfl, ?_⟩) hHeld ?_ ?_
                rotate_left
                · rintro w' ⟨s0, s1, s2, s3, s4, s5, s6, s7, s8, s9, s10, s11, s12, s13, s14, s15, s16, s17⟩
                  go_simp
                  with_reducible rfl
                rotate_left
                · simp only [Act.put, List.setIfInBounds_toArray, List.set_cons_zero, List.set_cons_succ, i64_w, i32_w]
                  rfl
                refine take_ (i := 21) (N := some 74) (v := ?_) (a' := ?_) #[true, true, true, true, true, true, true, true, true, true, true, true, true, true, true, true, true, true, true, true, true, true, false, false, false, false, false, false, false] rfl rfl (take_ofW HT_.out HW_.out (by kernel_rfl)) (fun _ _ _ h => h) (Or.inl ⟨by rfl, ?_⟩) hHeld ?_ ?_
                rotate_left
                · rintro w' ⟨s0, s1, s2, s3, s4, s5, s6, s7, s8, s9, s10, s11, s12, s13, s14, s15, s16, s17⟩
                  go_simp
                  with_reducible rfl
                rotate_left
                · simp only [Act.put, List.setIfInBounds_toArray, List.set_cons_zero, List.set_cons_succ, i64_w, i32_w]
                  rfl
                refine take_ (i := 23) (N := some 76) (v := ?_) (a' := ?_) #[true, true, true, true, true, true, true, true, true, true, true, true, true, true, true, true, true, true, true, true, true, true, false, true, false, false, false, false, false] rfl rfl (take_ofW HT_.out HW_.out (by kernel_rfl)) (fun _ _ _ h => h) (Or.inl ⟨by rfl, ?_⟩) hHeld ?_ ?_
                rotate_left
                · rintro w' ⟨s0, s1, s2, s3, s4, s5, s6, s7, s8, s9, s10, s11, s12, s13, s14, s15, s16, s17⟩
                  go_simp
                  with_reducible rfl
                rotate_left
                · simp only [Act.put, List.setIfInBounds_toArray, List.set_cons_zero, List.set_cons_succ, i64_w, i32_w]
                  rfl
                refine take_ (i := 24) (N := some 77) (v := ?_) (a' := ?_) #[true, true, true, true, true, true, true, true, true, true, true, true, true, true, true, true, true, true, true, true, true, true, false, true, true, false, false, false, false] rfl rfl (take_ofW HT_.out HW_.out (by kernel_rfl)) (fun _ _ _ h => h) (Or.inl ⟨by rfl, ?_⟩) hHeld ?_ ?_
                rotate_left
                · rintro w' ⟨s0, s1, s2, s3, s4, s5, s6, s7, s8, s9, s10, s11, s12, s13, s14, s15, s16, s17⟩
                  go_simp
                  with_reducible rfl
                rotate_left
                · simp only [Act.put, List.setIfInBounds_toArray, List.set_cons_zero, List.set_cons_succ, i64_w, i32_w]
                  rfl
                refine one_ (i := 22) (N := some 75) #[true, true, true, true, true, true, true, true, true, true, true, true, true, true, true, true, true, true, true, true, true, true, true, true, true, false, false, false, false] rfl rfl (one_of HT_.out (by kernel_rfl)) (by decide) (fun K hK => ?_)
                refine goes_ Try.func17 (by kernel_rfl) rfl #[.agg #[.bool a0_0, .int .u64 a0_1, .int .u64 a0_2], .agg #[.bool a1_0, .int .u64 a1_1, .int .u64 a1_2]] (by rfl) rfl rfl lna_ ?_
                with_reducible refine (curve_Add.calls a0_0 a0_1 a0_2 a1_0 a1_1 a1_2 t139 t140 t141 _ A77.out).mono ?_
                rintro e w91 ⟨rfl, hb⟩
                refine ⟨_, rfl, ?_⟩
                have n0_ := Aside0.mk (blk_below (g := gb101) (o := .cells #[.bool a0_0, .int .u64 a0_1, .int .u64 a0_2] 24 (0, 0)) blk_ hb)
                have n1_ := Aside0.mk (blk_below (g := gb102) (o := .cells #[.bool a1_0, .int .u64 a1_1, .int .u64 a1_2] 24 (0, 0)) blk_ hb)
                have n2_ := Aside0.mk (blk_below (g := gb103) (o := .cells #[.bool a2_0, .int .u64 a2_1, .int .u64 a2_2] 24 (0, 0)) blk_ hb)
                have n3_ := Aside0.mk (blk_below (g := gb111) (o := .cells #[.bool t108, .int .u64 t109, .int .u64 t110] 24 (0, 0)) blk_ hb)
                have n4_ := Aside0.mk (blk_below (g := gb118) (o := .cells #[.bool t115, .int .u64 t116, .int .u64 t117] 24 (0, 0)) blk_ hb)
                have n5_ := Aside0.mk (blk_below (g := gb125) (o := .cells #[.bool true, .int .u64 t123, .int .u64 t124] 24 (0, 0)) blk_ hb)
                have n6_ := Aside0.mk (blk_below (g := gb135) (o := .cells #[.bool t132, .int .u64 t133, .int .u64 t134] 24 (0, 0)) blk_ hb)
                have n7_ := Aside0.mk (below_step bel_ hb)
                clear BK101
                clear BK102
                clear BK103
                clear BK111
                clear BK118
                clear BK125
                clear BK135
                clear HB
                have BK101 := n0_
                have BK102 := n1_
                have BK103 := n2_
                have BK111 := n3_
                have BK118 := n4_
                have BK125 := n5_
                have BK135 := n6_
                have HB := n7_
                clear n0_ n1_ n2_ n3_ n4_ n5_ n6_ n7_
                (try clear hb)
                (try clear hb2)
                (try clear hk)
                (try clear hi)
                refine hK.out _ _ ⟨(blk_cell BK111.out 0).trans rfl, (blk_cell BK111.out 1).trans rfl, (blk_cell BK111.out 2).trans rfl, (blk_cell BK118.out 0).trans rfl, (blk_cell BK118.out 1).trans rfl, (blk_cell BK118.out 2).trans rfl, (blk_cell BK125.out 0).trans rfl, (blk_cell BK125.out 1).trans rfl, (blk_cell BK125.out 2).trans rfl, (blk_cell BK135.out 0).trans rfl, (blk_cell BK135.out 1).trans rfl, (blk_cell BK135.out 2).trans rfl, (blk_cell BK101.out 0).trans rfl, (blk_cell BK101.out 1).trans rfl, (blk_cell BK101.out 2).trans rfl, (blk_cell BK102.out 0).trans rfl, (blk_cell BK102.out 1).trans rfl, (blk_cell BK102.out 2).trans rfl⟩ (fun hHeld => ?_)
                clear hK K
                refine norm_ (a' := ?_) ?_ ?_
                rotate_left
                · show Act.put _ (some 75) _ = _
                  simp only [Act.put, List.setIfInBounds_toArray, List.set_cons_zero, List.set_cons_succ, i64_w, i32_w]
                  rfl
                refine one_ (i := 25) (N := some 78) #[true, true, true, true, true, true, true, true, true, true, true, true, true, true, true, true, true, true, true, true, true, true, true, true, true, true, false, false, false] rfl rfl (one_of HT_.out (by kernel_rfl)) (by decide) (fun K hK => ?_)
                refine goes_ Try.func17 (by kernel_rfl) rfl #[.agg #[.bool a1_0, .int .u64 a1_1, .int .u64 a1_2], .agg #[.bool a0_0, .int .u64 a0_1, .int .u64 a0_2]] (by rfl) rfl rfl lna_ ?_
                with_reducible refine (curve_Add.calls a1_0 a1_1 a1_2 a0_0 a0_1 a0_2 t142 t143 t144 _ A78.out).mono ?_
                rintro e w92 ⟨rfl, hb⟩
                refine ⟨_, rfl, ?_⟩
                have n0_ := Aside0.mk (blk_below (g := gb101) (o := .cells #[.bool a0_0, .int .u64 a0_1, .int .u64 a0_2] 24 (0, 0)) blk_ hb)
                have n1_ := Aside0.mk (blk_below (g := gb102) (o := .cells #[.bool a1_0, .int .u64 a1_1, .int .u64 a1_2] 24 (0, 0)) blk_ hb)
                have n2_ := Aside0.mk (blk_below (g := gb103) (o := .cells #[.bool a2_0, .int .u64 a2_1, .int .u64 a2_2] 24 (0, 0)) blk_ hb)
                have n3_ := Aside0.mk (blk_below (g := gb111) (o := .cells #[.bool t108, .int .u64 t109, .int .u64 t110] 24 (0, 0)) blk_ hb)
                have n4_ := Aside0.mk (blk_below (g := gb118) (o := .cells #[.bool t115, .int .u64 t116, .int .u64 t117] 24 (0, 0)) blk_ hb)
                have n5_ := Aside0.mk (blk_below (g := gb125) (o := .cells #[.bool true, .int .u64 t123, .int .u64 t124] 24 (0, 0)) blk_ hb)
                have n6_ := Aside0.mk (blk_below (g := gb135) (o := .cells #[.bool t132, .int .u64 t133, .int .u64 t134] 24 (0, 0)) blk_ hb)
                have n7_ := Aside0.mk (below_step bel_ hb)
                clear BK101
                clear BK102
                clear BK103
                clear BK111
                clear BK118
                clear BK125
                clear BK135
                clear HB
                have BK101 := n0_
                have BK102 := n1_
                have BK103 := n2_
                have BK111 := n3_
                have BK118 := n4_
                have BK125 := n5_
                have BK135 := n6_
                have HB := n7_
                clear n0_ n1_ n2_ n3_ n4_ n5_ n6_ n7_
                (try clear hb)
                (try clear hb2)
                (try clear hk)
                (try clear hi)
                refine hK.out _ _ ⟨(blk_cell BK111.out 0).trans rfl, (blk_cell BK111.out 1).trans rfl, (blk_cell BK111.out 2).trans rfl, (blk_cell BK118.out 0).trans rfl, (blk_cell BK118.out 1).trans rfl, (blk_cell BK118.out 2).trans rfl, (blk_cell BK125.out 0).trans rfl, (blk_cell BK125.out 1).trans rfl, (blk_cell BK125.out 2).trans rfl, (blk_cell BK135.out 0).trans rfl, (blk_cell BK135.out 1).trans rfl, (blk_cell BK135.out 2).trans rfl, (blk_cell BK101.out 0).trans rfl, (blk_cell BK101.out 1).trans rfl, (blk_cell BK101.out 2).trans rfl, (blk_cell BK102.out 0).trans rfl, (blk_cell BK102.out 1).trans rfl, (blk_cell BK102.out 2).trans rfl⟩ (fun hHeld => ?_)
                clear hK K
                refine norm_ (a' := ?_) ?_ ?_
                rotate_left
                · show Act.put _ (some 78) _ = _
                  simp only [Act.put, List.setIfInBounds_toArray, List.set_cons_zero, List.set_cons_succ, i64_w, i32_w]
                  rfl
                refine pure_ (i := 26) (N := some 79) (v := ?_) (a' := ?_) #[true, true, true, true, true, true, true, true, true, true, true, true, true, true, true, true, true, true, true, true, true, true, true, true, true, true, true, false, false] rfl rfl (any_of HT_.out (by kernel_rfl)) (fun _ _ _ h => h) (Or.inl ⟨by rfl, ?_⟩) ?_ ?_
                rotate_left
                · intro w'
                  go_simp
                  with_reducible rfl
                rotate_left
                · simp only [Act.put, List.setIfInBounds_toArray, List.set_cons_zero, List.set_cons_succ, i64_w, i32_w]
                  rfl
                refine pure_ (i := 27) (N := some 80) (v := ?_) (a' := ?_) #[true, true, true, true, true, true, true, true, true, true, true, true, true, true, true, true, true, true, true, true, true, true, true, true, true, true, true, true, false] rfl rfl (any_of HT_.out (by kernel_rfl)) (fun _ _ _ h => h) (Or.inl ⟨by rfl, ?_⟩) ?_ ?_
                rotate_left
                · intro w'
                  go_simp
                  with_reducible rfl
                rotate_left
                · simp only [Act.put, List.setIfInBounds_toArray, List.set_cons_zero, List.set_cons_succ, i64_w, i32_w]
                  rfl
                refine pure_ (i := 28) (N := some 10) (v := ?_) (a' := ?_) #[true, true, true, true, true, true, true, true, true, true, true, true, true, true, true, true, true, true, true, true, true, true, true, true, true, true, true, true, true] rfl rfl (any_of HT_.out (by kernel_rfl)) (fun _ _ _ h => h) (Or.inl ⟨by rfl, ?_⟩) ?_ ?_
                rotate_left
                · intro w'
                  go_simp
                  with_reducible rfl
                rotate_left
                · simp only [Act.put, List.setIfInBounds_toArray, List.set_cons_zero, List.set_cons_succ, i64_w, i32_w]
                  rfl
                refine done_ (done_of HT_.out (by kernel_rfl)) ?_
                try go_wp2
                go_ret
                exact ⟨by first | rfl | (simp [errW_none, errW_some] <;> rfl) | (simp [*, errW_none, errW_some] <;> rfl), bel_⟩
              · rw [if_neg c76] at H
                have c76b0 : (t132 == t136 && (t133 == t137 && (t134 == t138))) = false := by simpa using c76
                (try (have c76b1 : decide (t132 = t136 && (t133 == t137 && (t134 == t138))) = false := by simpa using c76))
                (try (have c76b2 : (t132 == t136 && (t133 == t137 && (t134 == t138))) = false := by simpa using c76))
                (try (have c76b3 : ¬ (t132 = t136 && (t133 == t137 && (t134 == t138))) := by simpa using c76))
                clear c76
                exact absurd (Option.some.inj H) (by rw [HRT.out]; decide)
            · replace c74 := Bool.eq_false_iff.mpr c74
              subst c74
              have H1 : (some false) = some r := by rw [if_neg (show ¬ (false = true) by decide)] at H; exact H
              clear H
              have H := H1
              clear H1
              exact absurd (Option.some.inj H) (by rw [HRT.out]; decide)
          · rw [if_neg c73] at H
            have c73b0 : (t108 == t115 && (t109 == t116 && (t110 == t117))) = false := by simpa using c73
            (try (have c73b1 : decide (t108 = t115 && (t109 == t116 && (t110 == t117))) = false := by simpa using c73))
            (try (have c73b2 : (t108 == t115 && (t109 == t116 && (t110 == t117))) = false := by simpa using c73))
            (try (have c73b3 : ¬ (t108 = t115 && (t109 == t116 && (t110 == t117))) := by simpa using c73))
            clear c73
            exact absurd (Option.some.inj H) (by rw [HRT.out]; decide)
        · replace c72 := Bool.eq_false_iff.mpr c72
          subst c72
          have H1 : (some false) = some r := by rw [if_neg (show ¬ (false = true) by decide)] at H; exact H
          clear H
          have H := H1
          clear H1
          exact absurd (Option.some.inj H) (by rw [HRT.out]; decide)

/-- THE ONE PURE STATEMENT of obollaw03_CurveGroup: yours. -/
def obollaw03_CurveGroup.Pure : Prop := ∀ (a0_0 : Bool) (a0_1 : Int) (a0_2 : Int) (a1_0 : Bool) (a1_1 : Int) (a1_2 : Int) (a2_0 : Bool) (a2_1 : Int) (a2_2 : Int) (a3 : Int) (a4 : Int), (Lit.int .u64 a0_1).wf = true → (Lit.int .u64 a0_2).wf = true → (Lit.int .u64 a1_1).wf = true → (Lit.int .u64 a1_2).wf = true → (Lit.int .u64 a2_1).wf = true → (Lit.int .u64 a2_2).wf = true → (Lit.int .u64 a3).wf = true → (Lit.int .u64 a4).wf = true → ∃ k, obollaw03_CurveGroup.f k a0_0 a0_1 a0_2 a1_0 a1_1 a1_2 a2_0 a2_1 a2_2 a3 a4 = some true
theorem obollaw03_CurveGroup.walk (P : obollaw03_CurveGroup.Pure) (a0_0 : Bool) (a0_1 : Int) (a0_2 : Int) (a1_0 : Bool) (a1_1 : Int) (a1_2 : Int) (a2_0 : Bool) (a2_1 : Int) (a2_2 : Int) (a3 : Int) (a4 : Int) (w : World) (w0_1 : (Lit.int .u64 a0_1).wf = true) (w0_2 : (Lit.int .u64 a0_2).wf = true) (w1_1 : (Lit.int .u64 a1_1).wf = true) (w1_2 : (Lit.int .u64 a1_2).wf = true) (w2_1 : (Lit.int .u64 a2_1).wf = true) (w2_2 : (Lit.int .u64 a2_2).wf = true) (w3 : (Lit.int .u64 a3).wf = true) (w4 : (Lit.int .u64 a4).wf = true) :
    Calls Try.prog 5 #[.agg #[.bool a0_0, .int .u64 a0_1, .int .u64 a0_2], .agg #[.bool a1_0, .int .u64 a1_1, .int .u64 a1_2], .agg #[.bool a2_0, .int .u64 a2_1, .int .u64 a2_2], .int .u64 a3, .int .u64 a4] w fun e w' => e = .returned (.bool true) ∧ Below w.heap.size w w' := by
  obtain ⟨k, h⟩ := P a0_0 a0_1 a0_2 a1_0 a1_1 a1_2 a2_0 a2_1 a2_2 a3 a4 w0_1 w0_2 w1_1 w1_2 w2_1 w2_2 w3 w4
  refine (obollaw03_CurveGroup.calls k a0_0 a0_1 a0_2 a1_0 a1_1 a1_2 a2_0 a2_1 a2_2 a3 a4 true w h rfl).mono ?_
  rintro e w' ⟨rfl, hd⟩
  exact ⟨rfl, hd⟩

end Go.Proofs.Ytibmidoepeghpaa.PCurveGroup
