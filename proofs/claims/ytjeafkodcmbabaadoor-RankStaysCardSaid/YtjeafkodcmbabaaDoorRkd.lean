/- RankValues: a list's value, its sum's value: a contract over E. -/
import Derived.Test.YtjeafkodcmbabaaDoorRkc
import Derived.Test.YtjeafkodcmbabaaDoorSm
import Derived.Test.YtjeafkodcmbabaaDoorProg
import Derived.KernelRfl
set_option linter.unusedVariables false
set_option linter.unusedSimpArgs false
set_option maxRecDepth 10000
open Go Go.Proofs.YtjeafkodcmbabaaDoor.E Go.Proofs
namespace Go.Proofs.YtjeafkodcmbabaaDoor.E.M
theorem sum_len (L : List Tm) : (sumT L).length ≤ L.length := by
  have h1 : ∀ (r : List Tm) (p : Option Int) (out : List Tm), (accS p out r).length ≤ out.length + r.length := by
    intro r
    induction r with
    | nil => intro p out; simp [accS]
    | cons t r ih =>
      intro p out
      simp only [accS]
      split
      · have := ih (some t.v) out; simp only [List.length_cons]; omega
      · refine Nat.le_trans (ih _ _) ?_
        rw [addL_len]
        split
        · simp only [List.length_cons]; omega
        · simp only [List.length_append, List.length_cons, List.length_nil]; omega
  have h2 : (sumT L).length ≤ (accS none [] (srt L)).length := List.length_filter_le _ _
  have h3 := h1 (srt L) none []
  rw [(srt_perm L).length_eq] at h3
  simp at h3; omega
set_option maxHeartbeats 4000000 in
theorem obollaw11_RankValues_c {L : List Tm} {V : List Int} (hT : wT L) (hV : wV V) : Fn Tryd.prog 4 [slF tm L, ul V] [] (fun r h_ => r = bo true) := by
  refine Fn.enter Tryd.func4 Tryd.ntmps4 rfl (h := ?_)
  have tf := tfr
  have ot_ : (false || true) = true := rfl
  repeat refine AW.seq ?_
  refine AW.reg ?_
  iterate 1 refine AOL.s1 (h := ?_)
  refine AOL.nil ?_
  refine AW.kq [0, 1] (h := ?_)
  repeat refine AW.seq ?_
  refine AW.reg ?_
  refine AOL.callD rfl (obollaw11_up_c) (by kernel_rfl) rfl rfl (h := ?_)
  iterate 1 refine AOL.s1 (h := ?_)
  refine AOL.nil ?_
  refine AW.kq [0, 1, 5] (h := ?_)
  repeat refine AW.seq ?_
  refine AW.reg ?_
  iterate 4 refine AOL.s1 (h := ?_)
  refine AOL.kq [0, 1, 5, 12] (h := ?_)
  refine AOL.or 12 16 (os' := ?_) (x := ?_) (h1 := ?_) (h0 := ?_) (h := ?_)
  rotate_left 2
  iterate 2
    · intro hb_ K' hK; (iterate 4 refine AOL.s1 (h := ?_)); refine AOL.kq [0, 1, 5, 16] (h := ?_); exact hK
  refine AOL.nil ?_
  refine AW.kq [0, 1, 5, 16] (h := ?_)
  repeat refine AW.seq ?_
  refine AW.cond rfl (fun c_ => ?_) (fun c_ => ?_)
  · repeat refine AW.seq ?_
    refine AW.reg ?_
    iterate 2 refine AOL.s1 (h := ?_)
    refine AOL.nil ?_
    refine AW.kq [4] (h := ?_)
    repeat refine AW.seq ?_
    refine AW.ret ?_
    refine ⟨_, [], rfl, HOk.nil _, ?_⟩
    rfl
  have hl : L.length ≤ 60 := by simp at c_; omega
  have hs := sumT_is L
  have hq : (sumT L).length ≤ 60 := Nat.le_trans (sum_len L) hl
  have wS : wT (sumT L) := fun t ht => by have := hs.pos t ht; show 0 ≤ t.k ∧ t.k < 18446744073709551616; omega
  have cS := rank_Sum_c (L := L) (by omega) hT
  have cV := rank_Value_c (L := L) (V := V) (by omega) hV hT
  have cW := obolref11_Value_c (L := L) (V := V) (by omega) hV hT
  have cT := obolref11_Sum_c (L := L) (by omega) hT
  have cE := obolref11_Same_c (L := sumT L) (by omega)
  have cX := obolref11_Value_c (L := sumT L) (V := V) (by omega) hV wS
  rw [val_sum] at cX
  generalize valF V 0 L = x at *
  generalize sumT L = Q at *
  clear hs hT hV wS c_ hl hq
  refine AW.skip ?_
  repeat refine AW.seq ?_
  refine AW.reg ?_
  iterate 1 refine AOL.s1 (h := ?_)
  refine AOL.callD rfl (cS) (by kernel_rfl) rfl rfl (h := ?_)
  iterate 1 refine AOL.s1 (h := ?_)
  refine AOL.nil ?_
  refine AW.kq [0, 1, 5, 6] (h := ?_)
  repeat refine AW.seq ?_
  refine AW.reg ?_
  iterate 2 refine AOL.s1 (h := ?_)
  refine AOL.callD rfl (cV) (by kernel_rfl) rfl rfl (h := ?_)
  iterate 1 refine AOL.s1 (h := ?_)
  refine AOL.nil ?_
  refine AW.kq [0, 1, 5, 6, 7] (h := ?_)
  repeat refine AW.seq ?_
  refine AW.reg ?_
  iterate 2 refine AOL.s1 (h := ?_)
  refine AOL.kq [0, 1, 6, 7, 24] (h := ?_)
  iterate 3 refine AOL.s1 (h := ?_)
  refine AOL.callD rfl (cW) (by kernel_rfl) rfl rfl (h := ?_)
  iterate 2 refine AOL.s1 (h := ?_)
  iterate 1 refine AOL.s1 (h := ?_)
  refine AOL.kq [0, 1, 6, 7, 31] (h := ?_)
  iterate 2 refine AOL.s1 (h := ?_)
  refine AOL.callD rfl (cT) (by kernel_rfl) rfl rfl (h := ?_)
  refine AOL.callD rfl (cE) (by kernel_rfl) rfl rfl (h := ?_)
  iterate 1 refine AOL.s1 (h := ?_)
  iterate 1 refine AOL.s1 (h := ?_)
  refine AOL.kq [1, 6, 7, 37] (h := ?_)
  iterate 2 refine AOL.s1 (h := ?_)
  refine AOL.callD rfl (cX) (by kernel_rfl) rfl rfl (h := ?_)
  iterate 3 refine AOL.s1 (h := ?_)
  iterate 1 refine AOL.s1 (h := ?_)
  refine AOL.nil ?_
  refine AW.kq [4] (h := ?_)
  repeat refine AW.seq ?_
  refine AW.ret ?_
  refine ⟨_, [], rfl, HOk.nil _, ?_⟩
  rfl
end Go.Proofs.YtjeafkodcmbabaaDoor.E.M

