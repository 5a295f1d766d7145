/- Lists without 0s at their end, the polynomial of values, products: contracts over E. -/
import Derived.Test.YtdbpjegocmdplaaQapG
import Derived.Test.YtdbpjegocmdplaaProg
import Derived.KernelRfl
set_option linter.unusedVariables false
set_option linter.unusedSimpArgs false
set_option maxRecDepth 10000
open Go Go.Proofs.Ytdbpjegocmdplaa.E Go.Proofs
namespace Go.Proofs.Ytdbpjegocmdplaa.E.M
theorem ul_def (L : List Int) : ul L = .sl L.length (fm u1 L) := rfl
def shortL (L : List Int) : List Int := (L.reverse.dropWhile (· == 0)).reverse
theorem shortL_snoc (M : List Int) (a : Int) : shortL (M ++ [a]) = if a = 0 then shortL M else M ++ [a] := by
  unfold shortL
  rw [List.reverse_append, List.reverse_singleton, List.singleton_append, List.dropWhile_cons]
  by_cases h : a = 0
  · simp [h]
  · simp [h]
theorem shortL_nil : shortL [] = [] := rfl
theorem shortL_pre (L : List Int) : ∃ r, L = shortL L ++ r := by
  refine ⟨(L.reverse.takeWhile (· == 0)).reverse, ?_⟩
  have := congrArg List.reverse (List.takeWhile_append_dropWhile (p := (· == (0:Int))) (l := L.reverse))
  rw [List.reverse_append, List.reverse_reverse] at this
  exact this.symm
theorem shortL_le (L : List Int) : (shortL L).length ≤ L.length := by
  obtain ⟨r, h⟩ := shortL_pre L
  have := congrArg List.length h
  rw [List.length_append] at this; omega
theorem shortL_w {L : List Int} (h : wV L) : wV (shortL L) := by
  obtain ⟨r, e⟩ := shortL_pre L
  intro v hv; exact h v (by rw [e]; exact List.mem_append.2 (.inl hv))
theorem snoc_cases (L : List Int) : L = [] ∨ ∃ M a, L = M ++ [a] := by
  rcases List.eq_nil_or_concat L with h | ⟨M, a, h⟩
  · exact .inl h
  · exact .inr ⟨M, a, by rw [h, List.concat_eq_append]⟩
theorem sl_to {L : List Int} {k : Nat} (hk : k ≤ L.length) : ∀ H, aSlice Try.prog 28 H (ul L) none (some (i k)) none = some (ul (L.take k)) := by
  intro H
  have tf := tfr
  have c1 : (0:Int) ≤ (k : Int) := by omega
  have c2 : (k : Int) ≤ L.length := by omega
  have e : (fm u1 L).take k = fm u1 (L.take k) := by
    have : L = L.take k ++ L.drop k := (List.take_append_drop k L).symm
    conv => lhs; rw [this, fm_app]
    rw [List.take_append_of_le_length (by rw [fml, List.length_take]; omega), List.take_of_length_le (by rw [fml, List.length_take]; omega)]
  have hz : ((0:Int) ≤ 0) = True := by simp
  have hl : (L.take k).length = k := by rw [List.length_take]; omega
  simp only [aSlice, tf, bnd, intOf?, hz, c1, c2, and_self, true_and, if_true, Int.toNat_natCast, Int.toNat_zero, Nat.mul_one, Nat.zero_mul, List.drop_zero, Nat.sub_zero, e]
  rw [ul_def, hl]
theorem ref_to {l n k : Nat} (hk : k ≤ n) : ∀ H, aSlice Try.prog 28 H (.ref l 0 n 1) none (some (i k)) none = some (.ref l 0 k 1) := by
  intro H
  have tf := tfr
  have c1 : (0:Int) ≤ (k : Int) := by omega
  have c2 : (k : Int) ≤ n := by omega
  have hz : ((0:Int) ≤ 0) = True := by simp
  simp only [aSlice, tf, bnd, intOf?, hz, c1, c2, and_self, true_and, if_true, Int.toNat_natCast, Int.toNat_zero, Nat.mul_one, Nat.zero_mul, Nat.sub_zero, Nat.add_zero]
set_option maxHeartbeats 2000000 in
theorem poly_short_c {L : List Int} (hL : wV L) (lL : L.length < 1000000000) : Fn Try.prog 84 [ul L] [] (fun r _ => r = ul (shortL L)) := by
  refine Fn.enter Try.func84 Try.ntmps84 rfl (h := ?_)
  have tf := tfr
  repeat refine AW.seq ?_
  refine AW.reg ?_
  iterate 1 refine AOL.s1 (h := ?_)
  refine AOL.nil ?_
  refine AW.kq [0] (h := ?_)
  repeat refine AW.seq ?_
  refine AW.block ?_
  repeat refine AW.seq ?_
  refine AW.loopK [0] (fun n s => ∃ M : List Int, s = ⟨21, [(0, ul M)], []⟩ ∧ n = M.length ∧ M.length < 1000000000 ∧ wV M ∧ shortL M = shortL L) L.length ?_ ?_
  · exact ⟨L, rfl, rfl, lL, hL, rfl⟩
  rintro n s ⟨M, rfl, rfl, lM, wM, hM⟩
  rcases snoc_cases M with rfl | ⟨M, a, rfl⟩
  · have g0 : decide (((0 : Nat) : Int) > 0) = false := rfl
    have hM : shortL L = [] := hM.symm
    repeat refine AW.seq ?_
    refine AW.reg ?_
    iterate 12 refine AOL.s1 (h := ?_)
    refine AOL.nil ?_
    refine AW.kq [0, 14] (h := ?_)
    repeat refine AW.seq ?_
    refine AW.cond rfl (fun c_ => ?_) (fun c_ => ?_)
    · cases c_
    repeat refine AW.seq ?_
    refine AW.exit ?_
    repeat (first | refine Kseq.ex ?_ | refine Kloop.ex ?_ | refine Kblock.miss (by decide) ?_)
    refine Kblock.hit ?_
    refine AW.kq [0] (h := ?_)
    repeat refine AW.seq ?_
    refine AW.reg ?_
    iterate 2 refine AOL.s1 (h := ?_)
    refine AOL.nil ?_
    refine AW.kq [2] (h := ?_)
    repeat refine AW.seq ?_
    refine AW.ret ?_
    refine ⟨_, [], rfl, HOk.nil _, ?_⟩
    rw [hM]
    rfl
  · have hl : (M ++ [a]).length = M.length + 1 := by simp
    have hfm : fm u1 (M ++ [a]) = fm u1 M ++ [u a] := fm_app M [a]
    have hd : (fm u1 (M ++ [a])).drop M.length = [u a] := by rw [hfm, List.drop_append_of_le_length (by rw [fml]; omega), List.drop_of_length_le (by rw [fml]; omega), List.nil_append]
    rw [shortL_snoc] at hM
    have hs := sl_to (L := M ++ [a]) (k := M.length) (by omega)
    rw [List.take_left, ul_def, hl] at hs
    have wa : wV M := fun v hv => wM v (by simp [hv])
    rw [hl] at lM
    have g1 : decide (((M.length + 1 : Nat) : Int) > 0) = true := by rw [decide_eq_true_eq]; omega
    have hw : IntKind.i64.wrap (((M.length + 1 : Nat) : Int) - 1) = (M.length : Int) := by rw [wrapI_o (by omega) (by omega)] <;> omega
    have k0 : (0:Int) ≤ M.length := by omega
    have k1 : (M.length:Int) < ((M.length + 1 : Nat) : Int) := by omega
    rw [ul_def (M ++ [a]), hl]
    generalize hA : fm u1 (M ++ [a]) = A at *
    have hl' := hl
    clear hfm hl
    replace hA := hid hA
    replace hl' := hid hl'
    repeat refine AW.seq ?_
    refine AW.reg ?_
    iterate 12 refine AOL.s1 (h := ?_)
    refine AOL.nil ?_
    refine AW.kq [0, 14] (h := ?_)
    repeat refine AW.seq ?_
    refine AW.cond rfl (fun c_ => ?_) (fun c_ => ?_)
    · have ha : a = 0 := by simpa using c_
      rw [if_pos ha] at hM
      refine AW.skip ?_
      repeat refine AW.seq ?_
      refine AW.block ?_
      refine AW.reg ?_
      iterate 6 refine AOL.s1 (h := ?_)
      refine AOL.nil ?_
      exact ⟨M.length, by simp, M, rfl, rfl, by omega, wa, hM⟩
    have ha : ¬ a = 0 := by
      intro h; rw [h] at c_; cases c_
    rw [if_neg ha] at hM
    repeat refine AW.seq ?_
    refine AW.exit ?_
    repeat (first | refine Kseq.ex ?_ | refine Kloop.ex ?_ | refine Kblock.miss (by decide) ?_)
    refine Kblock.hit ?_
    refine AW.kq [0] (h := ?_)
    repeat refine AW.seq ?_
    refine AW.reg ?_
    iterate 2 refine AOL.s1 (h := ?_)
    refine AOL.nil ?_
    refine AW.kq [2] (h := ?_)
    repeat refine AW.seq ?_
    refine AW.ret ?_
    refine ⟨_, [], rfl, HOk.nil _, ?_⟩
    have hA' : fm u1 (M ++ [a]) = A := hA
    have hl' : (M ++ [a]).length = M.length + 1 := hl'
    simp only [one?]
    rw [← hM, ul_def, hl', hA']
set_option maxHeartbeats 2000000 in
theorem poly_short_o {L : List Int} (hL : wV L) (lL : L.length < 1000000000) : Fn Try.prog 84 [.ref 0 0 L.length 1] [(0, blk L)] (Tells (.ref 0 0 (shortL L).length 1) [(0, blk L)]) := by
  refine Fn.enter Try.func84 Try.ntmps84 rfl (h := ?_)
  have tf := tfr
  repeat refine AW.seq ?_
  refine AW.reg ?_
  iterate 1 refine AOL.s1 (h := ?_)
  refine AOL.nil ?_
  refine AW.kq [0] (h := ?_)
  repeat refine AW.seq ?_
  refine AW.block ?_
  repeat refine AW.seq ?_
  refine AW.loopK [0] (fun n s => ∃ M r : List Int, s = ⟨21, [(0, .ref 0 0 M.length 1)], [(0, blk L)]⟩ ∧ n = M.length ∧ L = M ++ r ∧ shortL M = shortL L) L.length ?_ ?_
  · exact ⟨L, [], rfl, rfl, by simp, rfl⟩
  rintro n s ⟨M, r, rfl, rfl, hr, hM⟩
  have lM : M.length ≤ L.length := by rw [hr, List.length_append]; omega
  rcases snoc_cases M with rfl | ⟨M, a, rfl⟩
  · have g0 : decide (((0 : Nat) : Int) > 0) = false := rfl
    have hM : shortL L = [] := hM.symm
    rw [hM]
    clear hr
    repeat refine AW.seq ?_
    refine AW.reg ?_
    iterate 12 refine AOL.s1 (h := ?_)
    refine AOL.nil ?_
    refine AW.kq [0, 14] (h := ?_)
    repeat refine AW.seq ?_
    refine AW.cond rfl (fun c_ => ?_) (fun c_ => ?_)
    · cases c_
    repeat refine AW.seq ?_
    refine AW.exit ?_
    repeat (first | refine Kseq.ex ?_ | refine Kloop.ex ?_ | refine Kblock.miss (by decide) ?_)
    refine Kblock.hit ?_
    refine AW.kq [0] (h := ?_)
    repeat refine AW.seq ?_
    refine AW.reg ?_
    iterate 2 refine AOL.s1 (h := ?_)
    refine AOL.nil ?_
    refine AW.kq [2] (h := ?_)
    repeat refine AW.seq ?_
    refine AW.ret ?_
    exact ⟨_, [(0, _)], rfl, (fun p_ hp_ => hp_), Tells.old⟩
  · have hl : (M ++ [a]).length = M.length + 1 := by simp
    rw [hl] at lM
    have hd : (fm u1 L).drop M.length = u a :: fm u1 r := by
      rw [hr, List.append_assoc, fm_app, List.drop_append_of_le_length (by rw [fml]; omega), List.drop_of_length_le (by rw [fml]; omega), List.nil_append]; rfl
    rw [shortL_snoc] at hM
    have hs := ref_to (l := 0) (n := M.length + 1) (k := M.length) (by omega)
    have g1 : decide (((M.length + 1 : Nat) : Int) > 0) = true := by rw [decide_eq_true_eq]; omega
    have hw : IntKind.i64.wrap (((M.length + 1 : Nat) : Int) - 1) = (M.length : Int) := by rw [wrapI_o (by omega) (by omega)] <;> omega
    have k0 : (0:Int) ≤ M.length := by omega
    have k1 : (M.length:Int) < ((M.length + 1 : Nat) : Int) := by omega
    have hr2 : Hid (L = M ++ (a :: r)) := by show L = M ++ (a :: r); rw [hr]; simp
    rw [hl]
    clear hl hr
    repeat refine AW.seq ?_
    refine AW.reg ?_
    iterate 12 refine AOL.s1 (h := ?_)
    refine AOL.nil ?_
    refine AW.kq [0, 14] (h := ?_)
    repeat refine AW.seq ?_
    refine AW.cond rfl (fun c_ => ?_) (fun c_ => ?_)
    · have ha : a = 0 := by simpa using c_
      rw [if_pos ha] at hM
      refine AW.skip ?_
      repeat refine AW.seq ?_
      refine AW.block ?_
      refine AW.reg ?_
      iterate 6 refine AOL.s1 (h := ?_)
      refine AOL.nil ?_
      exact ⟨M.length, by simp, M, a :: r, rfl, rfl, hr2, hM⟩
    have ha : ¬ a = 0 := by
      intro h; rw [h] at c_; cases c_
    rw [if_neg ha] at hM
    have hlen : (shortL L).length = M.length + 1 := by rw [← hM]; simp
    rw [hlen]
    clear hlen
    repeat refine AW.seq ?_
    refine AW.exit ?_
    repeat (first | refine Kseq.ex ?_ | refine Kloop.ex ?_ | refine Kblock.miss (by decide) ?_)
    refine Kblock.hit ?_
    refine AW.kq [0] (h := ?_)
    repeat refine AW.seq ?_
    refine AW.reg ?_
    iterate 2 refine AOL.s1 (h := ?_)
    refine AOL.nil ?_
    refine AW.kq [2] (h := ?_)
    repeat refine AW.seq ?_
    refine AW.ret ?_
    exact ⟨_, [(0, _)], rfl, (fun p_ hp_ => hp_), Tells.old⟩

end Go.Proofs.Ytdbpjegocmdplaa.E.M

