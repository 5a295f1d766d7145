/- layer 11's up: the document's examples. -/
import Derived.Test.YtjeafkodcmbabaaDoorQapC
import Derived.Test.YtjeafkodcmbabaaDoorIsd
import Derived.Test.YtjeafkodcmbabaaDoorProg
import Derived.KernelRfl
set_option linter.unusedVariables false
set_option linter.unusedSimpArgs false
set_option maxRecDepth 10000
open Go Go.Proofs.YtjeafkodcmbabaaDoor.E Go.Proofs
namespace Go.Proofs.YtjeafkodcmbabaaDoor.E.M
abbrev rk1 : Rk := ⟨2, 0, [⟨[⟨1, 1⟩], [⟨1, 1⟩], [⟨1, 1⟩]⟩]⟩
theorem rk1_len : Len rk1 := ⟨by decide, by intro r hr; simp at hr; subst hr; decide⟩
theorem rk1_w : wR rk1 := by
  intro r hr; simp at hr; subst hr
  refine ⟨?_, ?_, ?_⟩ <;> (intro t ht; simp at ht; subst ht; decide)
theorem rk1_y : Fn Tryd.prog 8 [.agg [i 2, i 0, slF rw_ rk1.l], ul [1, 1]] [] (fun r h_ => r = nil_) := (rank_Holds_c (s := rk1) (V := [1, 1]) rk1_len rk1_w (by intro v hv; simp at hv; subst hv; decide) (by decide)).mono (by rintro r h ⟨⟩; unfold holdsF; rw [if_pos (by decide), if_neg (by decide)]; show (if _ then _ else _) = _; rw [if_pos (by decide)]; rfl)
theorem rk1_n : Fn Tryd.prog 8 [.agg [i 2, i 0, slF rw_ rk1.l], ul [1, 2]] [] (fun r h_ => r = spot 0 8) := (rank_Holds_c (s := rk1) (V := [1, 2]) rk1_len rk1_w (by intro v hv; simp at hv; rcases hv with rfl | rfl <;> decide) (by decide)).mono (by rintro r h ⟨⟩; unfold holdsF; rw [if_pos (by decide), if_neg (by decide)]; show (if _ then _ else _) = _; rw [if_neg (by decide)]; rfl)
set_option maxHeartbeats 4000000 in
theorem obollaw11_up_c : Fn Tryd.prog 6 [] [] (fun r h_ => r = bo true) := by
  refine Fn.enter Tryd.func6 Tryd.ntmps6 rfl (h := ?_)
  have tf := tfr
  have ot_ : (false || true) = true := rfl
  skip
  have y := rk1_y
  have n := rk1_n
  repeat refine AW.seq ?_
  refine AW.reg ?_
  iterate 1 refine AOL.s1 (h := ?_)
  refine AOL.nil ?_
  refine AW.kq [] (h := ?_)
  repeat refine AW.seq ?_
  refine AW.reg ?_
  iterate 3 refine AOL.s1 (h := ?_)
  refine AOL.nil ?_
  refine AW.kq [1] (h := ?_)
  refine AW.fz 1096 rfl (fun h => by cases h) (h := ?_)
  repeat refine AW.seq ?_
  refine AW.reg ?_
  iterate 8 refine AOL.s1 (h := ?_)
  refine AOL.nil ?_
  refine AW.kq [2] (h := ?_)
  refine AW.fz 1176 rfl (fun h => by cases h) (h := ?_)
  repeat refine AW.seq ?_
  refine AW.reg ?_
  iterate 2 refine AOL.s1 (h := ?_)
  refine AOL.fz 1224 rfl (fun h => by cases h) (h := ?_)
  refine AOL.callD rfl (y) (by kernel_rfl) rfl rfl (h := ?_)
  iterate 1 refine AOL.s1 (h := ?_)
  refine AOL.nil ?_
  refine AW.kq [2, 3] (h := ?_)
  repeat refine AW.seq ?_
  refine AW.reg ?_
  iterate 2 refine AOL.s1 (h := ?_)
  refine AOL.fz 1272 rfl (fun h => by cases h) (h := ?_)
  refine AOL.callD rfl (n) (by kernel_rfl) rfl rfl (h := ?_)
  iterate 1 refine AOL.s1 (h := ?_)
  refine AOL.nil ?_
  refine AW.kq [3, 4] (h := ?_)
  repeat refine AW.seq ?_
  refine AW.reg ?_
  iterate 3 refine AOL.s1 (h := ?_)
  refine AOL.kq [4, 21] (h := ?_)
  iterate 1 refine AOL.s1 (h := ?_)
  refine AOL.callD rfl (obollaw00_Is_c (p := 0) (c := 8)) (by kernel_rfl) rfl rfl (h := ?_)
  iterate 1 refine AOL.s1 (h := ?_)
  iterate 1 refine AOL.s1 (h := ?_)
  refine AOL.nil ?_
  refine AW.kq [0] (h := ?_)
  repeat refine AW.seq ?_
  refine AW.ret ?_
  refine ⟨_, [], rfl, HOk.nil _, ?_⟩
  rfl
end Go.Proofs.YtjeafkodcmbabaaDoor.E.M

