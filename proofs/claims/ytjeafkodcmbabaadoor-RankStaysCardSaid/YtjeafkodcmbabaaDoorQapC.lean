/- Whether values hold for a system: a contract over E. -/
import Derived.Test.YtjeafkodcmbabaaDoorQapB
import Derived.Test.YtjeafkodcmbabaaDoorProg
import Derived.KernelRfl
set_option linter.unusedVariables false
set_option linter.unusedSimpArgs false
set_option maxRecDepth 10000
open Go Go.Proofs.YtjeafkodcmbabaaDoor.E Go.Proofs
namespace Go.Proofs.YtjeafkodcmbabaaDoor.E.M
abbrev spot (k n : Int) : AV := .ifc 49 (.fptr [i k, er n])
def rowsH (V : List Int) : Nat → List Rw → AV
  | _, [] => nil_
  | k, r :: l => if valF V 0 r.a * valF V 0 r.b % 288230376287764481 = valF V 0 r.c then rowsH V (k + 1) l else spot k 8
def greatF (V : List Int) : Bool := V.any fun v => decide (v ≥ 288230376287764481)
def holdsF (s : Rk) (V : List Int) : AV := if chkF s then (if (V.length : Int) ≠ s.v ∨ V.head? ≠ some 1 ∨ greatF V = true then er 1 else rowsH V 0 s.l) else er 3
abbrev wR (s : Rk) : Prop := ∀ r ∈ s.l, wT r.a ∧ wT r.b ∧ wT r.c
theorem chk_v {s : Rk} (h : chkF s = true) : 1 ≤ s.v ∧ s.v ≤ 4096 ∧ 0 ≤ s.p ∧ s.p < s.v := by
  unfold chkF at h
  split at h
  · cases h
  · rename_i hb
    simp [badF] at hb
    omega
set_option maxHeartbeats 8000000 in
theorem rank_Holds_c {s : Rk} {V : List Int} (hS : Len s) (hW : wR s) (hV : wV V) (lV : V.length < 1000000000) : Fn Tryd.prog 8 [.agg (rk s), ul V] [] (fun r h_ => r = holdsF s V) := by
  refine Fn.enter Tryd.func8 Tryd.ntmps8 rfl (h := ?_)
  have tf := tfr
  have ot_ : (false || true) = true := rfl
  obtain ⟨sv, sp, sl_⟩ := s
  have cC := rank_Check_c hS
  have hG : Fn Tryd.prog 16 [ul V, .clo 17 []] [] (fun r _ => r = bo (greatF V)) := slices_ContainsFunc_uint64_uint64_c lV hV (by kernel_rfl) (fun v _ => rank_Holds_1_c)
  unfold holdsF
  cases hc : chkF ⟨sv, sp, sl_⟩ with
  | false =>
    rw [hc] at cC
    have cC : Fn Tryd.prog 15 [.agg (rk ⟨sv, sp, sl_⟩)] [] (fun r _ => r = er 3) := cC
    repeat refine AW.seq ?_
    refine AW.reg ?_
    iterate 2 refine AOL.s1 (h := ?_)
    refine AOL.nil ?_
    refine AW.kq [1, 2] (h := ?_)
    repeat refine AW.seq ?_
    refine AW.reg ?_
    iterate 1 refine AOL.s1 (h := ?_)
    refine AOL.callD rfl (cC) (by kernel_rfl) rfl rfl (h := ?_)
    iterate 1 refine AOL.s1 (h := ?_)
    refine AOL.nil ?_
    refine AW.kq [1, 2, 5] (h := ?_)
    repeat refine AW.seq ?_
    refine AW.reg ?_
    iterate 2 refine AOL.s1 (h := ?_)
    refine AOL.nil ?_
    refine AW.kq [1, 2, 5, 11] (h := ?_)
    repeat refine AW.seq ?_
    refine AW.cond rfl (fun c_ => ?_) (fun c_ => ?_)
    · repeat refine AW.seq ?_
      refine AW.reg ?_
      iterate 2 refine AOL.s1 (h := ?_)
      refine AOL.nil ?_
      refine AW.kq [4] (h := ?_)
      repeat refine AW.seq ?_
      refine AW.ret ?_
      refine ⟨_, [], rfl, HOk.nil _, ?_⟩
      rfl
    cases c_
  | true =>
  rw [hc] at cC
  have cC : Fn Tryd.prog 15 [.agg (rk ⟨sv, sp, sl_⟩)] [] (fun r _ => r = nil_) := cC
  obtain ⟨v1, v2, _, _⟩ := chk_v hc
  simp only at v1 v2
  rw [if_pos rfl]
  cases V with
  | nil =>
    rw [if_pos (.inl (by simp only [List.length_nil]; omega))]
    have hne : decide (((0 : Nat) : Int) ≠ sv) = true := by simp; omega
    have hne2 : (((0 : Nat) : Int) != sv) = true := by simp; omega
    repeat refine AW.seq ?_
    refine AW.reg ?_
    iterate 2 refine AOL.s1 (h := ?_)
    refine AOL.nil ?_
    refine AW.kq [1, 2] (h := ?_)
    repeat refine AW.seq ?_
    refine AW.reg ?_
    iterate 1 refine AOL.s1 (h := ?_)
    refine AOL.callD rfl (cC) (by kernel_rfl) rfl rfl (h := ?_)
    iterate 1 refine AOL.s1 (h := ?_)
    refine AOL.nil ?_
    refine AW.kq [1, 2, 5] (h := ?_)
    repeat refine AW.seq ?_
    refine AW.reg ?_
    iterate 2 refine AOL.s1 (h := ?_)
    refine AOL.nil ?_
    refine AW.kq [1, 2, 5, 11] (h := ?_)
    repeat refine AW.seq ?_
    refine AW.cond rfl (fun c_ => ?_) (fun c_ => ?_)
    · cases c_
    refine AW.skip ?_
    repeat refine AW.seq ?_
    refine AW.reg ?_
    iterate 6 refine AOL.s1 (h := ?_)
    iterate 5 refine AOL.s1 (h := ?_)
    iterate 4 refine AOL.s1 (h := ?_)
    refine AOL.nil ?_
    refine AW.kq [1, 2, 27] (h := ?_)
    repeat refine AW.seq ?_
    refine AW.cond rfl (fun d_ => ?_) (fun d_ => ?_)
    · repeat refine AW.seq ?_
      refine AW.reg ?_
      iterate 2 refine AOL.s1 (h := ?_)
      refine AOL.nil ?_
      refine AW.kq [4] (h := ?_)
      repeat refine AW.seq ?_
      refine AW.ret ?_
      refine ⟨_, [], rfl, HOk.nil _, ?_⟩
      rfl
    cases d_
  | cons v0 V' =>
  have hh0 : (v0 :: V').head? = some v0 := rfl
  have hd0 : (fm u1 (v0 :: V')).head? = some (u v0) := rfl
  have l0 : (0:Int) < (v0 :: V').length := by simp only [List.length_cons]; omega
  have z0 : (0:Int) ≤ 0 := by decide
  generalize v0 :: V' = V at *
  repeat refine AW.seq ?_
  refine AW.reg ?_
  iterate 2 refine AOL.s1 (h := ?_)
  refine AOL.nil ?_
  refine AW.kq [1, 2] (h := ?_)
  repeat refine AW.seq ?_
  refine AW.reg ?_
  iterate 1 refine AOL.s1 (h := ?_)
  refine AOL.callD rfl (cC) (by kernel_rfl) rfl rfl (h := ?_)
  iterate 1 refine AOL.s1 (h := ?_)
  refine AOL.nil ?_
  refine AW.kq [1, 2, 5] (h := ?_)
  repeat refine AW.seq ?_
  refine AW.reg ?_
  iterate 2 refine AOL.s1 (h := ?_)
  refine AOL.nil ?_
  refine AW.kq [1, 2, 5, 11] (h := ?_)
  repeat refine AW.seq ?_
  refine AW.cond rfl (fun b_ => ?_) (fun b_ => ?_)
  · cases b_
  refine AW.skip ?_
  repeat refine AW.seq ?_
  refine AW.reg ?_
  iterate 6 refine AOL.s1 (h := ?_)
  refine AOL.kq [1, 2, 18] (h := ?_)
  refine AOL.or 18 23 (os' := ?_) (x := ?_) (h1 := ?_) (h0 := ?_) (h := ?_)
  rotate_left 2
  iterate 2
    · intro hb_ K' hK; (iterate 5 refine AOL.s1 (h := ?_)); refine AOL.kq [1, 2, 23] (h := ?_); exact hK
  iterate 1 refine AOL.s1 (h := ?_)
  refine AOL.kq [1, 2, 24] (h := ?_)
  refine AOL.or 24 27 (os' := ?_) (x := ?_) (h1 := ?_) (h0 := ?_) (h := ?_)
  rotate_left 2
  iterate 2
    · intro hb_ K' hK; (first | (iterate 3 refine AOL.s1 (h := ?_)) | ((iterate 1 refine AOL.s1 (h := ?_)); refine AOL.callD rfl (hG) (by kernel_rfl) rfl rfl (h := ?_); (iterate 1 refine AOL.s1 (h := ?_)))); refine AOL.kq [1, 2, 27] (h := ?_); exact hK
  refine AOL.nil ?_
  refine AW.kq [1, 2, 27] (h := ?_)
  repeat refine AW.seq ?_
  refine AW.cond rfl (fun d_ => ?_) (fun d_ => ?_)
  · rw [if_pos (by
      simp only [Bool.or_eq_true] at d_
      rcases d_ with (h | h) | h
      · exact .inl (by simpa using h)
      · exact .inr (.inl (by rw [hh0]; simpa using h))
      · exact .inr (.inr h))]
    repeat refine AW.seq ?_
    refine AW.reg ?_
    iterate 2 refine AOL.s1 (h := ?_)
    refine AOL.nil ?_
    refine AW.kq [4] (h := ?_)
    repeat refine AW.seq ?_
    refine AW.ret ?_
    refine ⟨_, [], rfl, HOk.nil _, ?_⟩
    rfl
  rw [if_neg (by
    simp only [Bool.or_eq_false_iff] at d_
    obtain ⟨⟨h1, h2⟩, h3⟩ := d_
    rintro (h | h | h)
    · simp only [decide_eq_false_iff_not, Decidable.not_not, bne_eq_false_iff_eq] at h1; exact h h1
    · simp only [decide_eq_false_iff_not, Decidable.not_not, bne_eq_false_iff_eq] at h2; exact h (by rw [hh0, h2])
    · rw [h3] at h; cases h)]
  clear d_ hG hd0 l0 cC
  have hl := hS.1
  simp only at hl
  have hS2 := hS.2
  simp only at hS2
  have hW2 : ∀ r ∈ sl_, wT r.a ∧ wT r.b ∧ wT r.c := hW
  refine AW.skip ?_
  repeat refine AW.seq ?_
  refine AW.reg ?_
  iterate 4 refine AOL.s1 (h := ?_)
  refine AOL.nil ?_
  refine AW.kq [1, 30, 31, 32] (h := ?_)
  repeat refine AW.seq ?_
  refine AW.block ?_
  repeat refine AW.seq ?_
  refine AW.let 1032 (h := ?_)
  refine AW.loopK [1, 30, 31, 32] (fun n s => ∃ (k : Nat) (r : List Rw), s = ⟨57, [(1, ul V), (30, slF rw_ sl_), (31, i sl_.length), (32, i k)], []⟩ ∧ sl_.drop k = r ∧ k ≤ sl_.length ∧ n = r.length ∧ rowsH V k r = rowsH V 0 sl_) (sl_.length) ?_ ?_
  · exact ⟨0, sl_, rfl, rfl, Nat.zero_le _, rfl, rfl⟩
  rintro n s ⟨k, r, rfl, hr, hkl, rfl, hi⟩
  repeat refine AW.seq ?_
  refine AW.reg ?_
  iterate 1 refine AOL.s1 (h := ?_)
  refine AOL.nil ?_
  refine AW.kq [1, 30, 31, 32, 33] (h := ?_)
  repeat refine AW.seq ?_
  refine AW.cond rfl (fun e_ => ?_) (fun e_ => ?_)
  · obtain ⟨t, r, rfl⟩ := ends_cons hr hkl (by simpa using e_)
    obtain ⟨hlt, hr', ht⟩ := dconsq hr
    have hd : (fm rw_ sl_).drop (k * 3) = slF tm t.a :: slF tm t.b :: slF tm t.c :: fm rw_ r := fm_drop rw_len hr
    have k0 : (0:Int) ≤ k := by omega
    have k1 : (k:Int) < sl_.length := by omega
    have hw := incq hlt hl
    obtain ⟨la, lb, lc⟩ := hS2 t (List.mem_of_getElem? ht)
    obtain ⟨wa, wb, wc⟩ := hW2 t (List.mem_of_getElem? ht)
    have ca := rank_Value_c la hV wa
    have cb := rank_Value_c lb hV wb
    have cc := rank_Value_c lc hV wc
    have za := valF_w (V := V) t.a (out := 0) (by decide)
    have zb := valF_w (V := V) t.b (out := 0) (by decide)
    simp only [rowsH] at hi
    clear hr ht hS hW hS2 hW2 e_ la lb lc wa wb wc hV hc
    generalize valF V 0 t.a = xa at *
    generalize valF V 0 t.b = xb at *
    generalize valF V 0 t.c = xc at *
    refine AW.skip ?_
    repeat refine AW.seq ?_
    refine AW.block ?_
    repeat refine AW.seq ?_
    refine AW.reg ?_
    iterate 6 refine AOL.s1 (h := ?_)
    refine AOL.nil ?_
    refine AW.kq [1, 6, 7, 30, 31, 32] (h := ?_)
    repeat refine AW.seq ?_
    refine AW.drw 12 [] (by kernel_rfl) (h := ?_)
    iterate 3 refine ADL.dm 1 (h := ?_)
    refine ADL.call rfl (ca) (by kernel_rfl) rfl rfl (h := ?_)
    iterate 3 refine ADL.dm 1 (h := ?_)
    refine ADL.call rfl (cb) (by kernel_rfl) rfl rfl (h := ?_)
    refine ADL.call rfl (modular_Mul_c hR za zb) (by kernel_rfl) rfl rfl (h := ?_)
    iterate 3 refine ADL.dm 1 (h := ?_)
    refine ADL.done hmix rfl rfl (hT := ?_)
    refine AOL.callD rfl (cc) (by kernel_rfl) rfl rfl (h := ?_)
    iterate 1 refine AOL.s1 (h := ?_)
    refine AOL.nil ?_
    refine AW.kq [1, 6, 30, 31, 32, 50] (h := ?_)
    repeat refine AW.seq ?_
    refine AW.cond rfl (fun f_ => ?_) (fun f_ => ?_)
    · have hf : rowsH V 0 sl_ = spot k 8 := by rw [← hi, if_neg (by simpa using f_)]
      rw [hf]
      repeat refine AW.seq ?_
      refine AW.reg ?_
      iterate 6 refine AOL.s1 (h := ?_)
      refine AOL.nil ?_
      refine AW.kq [4] (h := ?_)
      refine AW.fz 1864 rfl (fun _ => rfl) (h := ?_)
      repeat refine AW.seq ?_
      refine AW.ret ?_
      refine ⟨_, [], rfl, HOk.nil _, ?_⟩
      rfl
    have hf : rowsH V (k + 1) r = rowsH V 0 sl_ := by rw [← hi, if_pos (by simpa using f_)]
    refine AW.skip ?_
    repeat refine AW.seq ?_
    refine AW.let 1112 (h := ?_)
    refine AW.reg ?_
    iterate 2 refine AOL.s1 (h := ?_)
    refine AOL.nil ?_
    exact ⟨r.length, by simp, _, r, rfl, hr', hlt, rfl, hf⟩
  · obtain rfl := ends_nil hr (by simpa using e_)
    have hg : rowsH V 0 sl_ = nil_ := hi.symm
    clear hi hr
    rw [hg]
    repeat refine AW.seq ?_
    refine AW.exit ?_
    repeat (first | refine Kseq.ex ?_ | refine Kloop.ex ?_ | refine Kblock.miss (by decide) ?_)
    refine Kblock.hit ?_
    refine AW.kq [] (h := ?_)
    repeat refine AW.seq ?_
    refine AW.reg ?_
    iterate 1 refine AOL.s1 (h := ?_)
    refine AOL.nil ?_
    refine AW.kq [4] (h := ?_)
    repeat refine AW.seq ?_
    refine AW.ret ?_
    refine ⟨_, [], rfl, HOk.nil _, ?_⟩
    rfl
end Go.Proofs.YtjeafkodcmbabaaDoor.E.M

