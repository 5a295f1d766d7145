/- obolref05.Words: a contract over E. -/
import Derived.Test.YthajlelljnkdiaaBlr
import Derived.Test.YthajlelljnkdiaaBy8
import Derived.Test.YthajlelljnkdiaaProg
import Derived.KernelRfl
set_option linter.unusedVariables false
set_option linter.unusedSimpArgs false
set_option maxRecDepth 10000
open Go Go.Proofs.Ythajlelljnkdiaa.E Go.Proofs
namespace Go.Proofs.Ythajlelljnkdiaa.E.M
abbrev sl32 (W : List Int) : AV := .sl W.length (a32 W)
abbrev k32 (W : List Int) : Blk := ⟨106, false, a32 W⟩
def wrd (a b c d : Int) : Int := IntKind.u32.wrap (IntKind.u32.wrap (IntKind.u32.wrap (IntKind.u32.wrap a + IntKind.u32.wrap (256 * IntKind.u32.wrap b)) + IntKind.u32.wrap (65536 * IntKind.u32.wrap c)) + IntKind.u32.wrap (16777216 * IntKind.u32.wrap d))
def wrdF : List Int → List Int
  | a :: b :: c :: d :: r => wrd a b c d :: wrdF r
  | _ => []
theorem wrdF_4 (a b c d : Int) (r : List Int) : wrdF (a :: b :: c :: d :: r) = wrd a b c d :: wrdF r := by rw [wrdF]
theorem wrdF_0 {L : List Int} (h : L.length < 4) : wrdF L = [] := by
  match L, h with
  | [], _ => rfl
  | [_], _ => rfl
  | [_, _], _ => rfl
  | [_, _, _], _ => rfl
  | _ :: _ :: _ :: _ :: _, h => simp at h; omega
theorem wrdF_len : ∀ (n : Nat) {L : List Int}, L.length = 4 * n → (wrdF L).length = n
  | 0, [], _ => rfl
  | 0, _ :: _, h => by simp at h
  | n + 1, L, h => by
    match L, h with
    | a :: b :: c :: d :: r, h => rw [wrdF_4, List.length_cons, wrdF_len n (by simp at h; omega)]
    | [], h => simp at h
    | [_], h => simp at h; omega
    | [_, _], h => simp at h; omega
    | [_, _, _], h => simp at h; omega
theorem a32_snoc (W : List Int) (v : Int) : a32 W ++ [c32 v] = a32 (W ++ [v]) := by unfold a32; rw [List.map_append]; rfl
theorem a32_sub (W : List Int) : sub 0 (W.length * 1) (a32 W) = a32 W := sub_all (by rw [a32_len]; omega)
theorem four {L : List Int} (h : 4 ≤ L.length) : ∃ a b c d r, L = a :: b :: c :: d :: r := by
  match L, h with
  | a :: b :: c :: d :: r, _ => exact ⟨a, b, c, d, r, rfl⟩
  | [], h => simp at h
  | [_], h => simp at h
  | [_, _], h => simp at h
  | [_, _, _], h => simp at h
theorem drop_next {L r : List Int} {k : Nat} {v : Int} (h : L.drop k = v :: r) : L.drop (k + 1) = r := by
  rw [← List.drop_drop, h]; rfl
set_option maxHeartbeats 4000000 in
theorem obolref05_Words_c {L : List Int} (hL : L.length < 1000000) : Fn Try.prog 56 [sl8 L] [] (fun r h_ => r = sl32 (wrdF L)) := by
  refine Fn.enter Try.func56 Try.ntmps56 rfl (h := ?_)
  have tf := tfk
  have ot_ : (false || true) = true := rfl
  repeat refine AW.seq ?_
  refine AW.reg ?_
  iterate 1 refine AOL.s1 (h := ?_)
  refine AOL.nil ?_
  refine AW.kq [0] (h := ?_)
  repeat refine AW.seq ?_
  refine AW.reg ?_
  iterate 1 refine AOL.s1 (h := ?_)
  refine AOL.nil ?_
  refine AW.kq [0, 3] (h := ?_)
  repeat refine AW.seq ?_
  refine AW.reg ?_
  iterate 1 refine AOL.s1 (h := ?_)
  refine AOL.nil ?_
  refine AW.kq [0, 3, 4] (h := ?_)
  repeat refine AW.seq ?_
  refine AW.block ?_
  repeat refine AW.seq ?_
  refine AW.born 3 1048 106 1 (.inl rfl) (h := ?_)
  refine AW.loopK [0, 3, 4] (fun n' s => ∃ (j : Nat) (W r : List Int), s = ⟨45, [(0, sl8 L), (3, .ref 1048 0 W.length 1), (4, i j)], [(1048, k32 W)]⟩ ∧ L.drop j = r ∧ j ≤ L.length ∧ n' = r.length ∧ W.length ≤ j ∧ W ++ wrdF r = wrdF L) (L.length) ?_ ?_
  · exact ⟨0, [], L, rfl, rfl, Nat.zero_le _, rfl, Nat.zero_le _, rfl⟩
  rintro n' s ⟨j, W, r, rfl, hr, hj, rfl, hW, hi⟩
  have e3 : IntKind.i64.wrap ((j:Int) + 3) = ((j + 3 : Nat) : Int) := by rw [wrapI_o (by omega) (by omega)]; omega
  repeat refine AW.seq ?_
  refine AW.reg ?_
  iterate 5 refine AOL.s1 (h := ?_)
  refine AOL.nil ?_
  refine AW.kq [0, 3, 4, 9] (h := ?_)
  repeat refine AW.seq ?_
  refine AW.cond rfl (fun c_ => ?_) (fun c_ => ?_)
  · have hj3 : j + 3 < L.length := by simp at c_; omega
    have hrl : r.length = L.length - j := by rw [← hr, List.length_drop]
    obtain ⟨a, b, c, d, r, rfl⟩ := four (L := r) (by omega)
    rw [wrdF_4] at hi
    have e1 : IntKind.i64.wrap ((j:Int) + 1) = ((j + 1 : Nat) : Int) := by rw [wrapI_o (by omega) (by omega)]; omega
    have e2 : IntKind.i64.wrap ((j:Int) + 2) = ((j + 2 : Nat) : Int) := by rw [wrapI_o (by omega) (by omega)]; omega
    have e4 : IntKind.i64.wrap ((j:Int) + 4) = ((j + 4 : Nat) : Int) := by rw [wrapI_o (by omega) (by omega)]; omega
    have d1 := by8_at hr
    have h1 := drop_next hr
    have d2 := by8_at h1
    have h2 := drop_next h1
    have d3 := by8_at h2
    have h3 := drop_next h2
    have d4 := by8_at h3
    have h4 := drop_next h3
    have j0 : (0:Int) ≤ (j:Nat) := by omega
    have j1 : (0:Int) ≤ ((j+1 : Nat):Int) := by omega
    have j2 : (0:Int) ≤ ((j+2 : Nat):Int) := by omega
    have j3 : (0:Int) ≤ ((j+3 : Nat):Int) := by omega
    have l0 : (j:Int) < L.length := by omega
    have l1 : ((j+1 : Nat):Int) < L.length := by omega
    have l2 : ((j+2 : Nat):Int) < L.length := by omega
    have l3 : ((j+3 : Nat):Int) < L.length := by omega
    have f1 := a32_len W
    have f2 : W.length + 1 ≤ 140737488355328 := by omega
    have f3 : (W.length + 1) * 4 ≤ 140737488355328 := by omega
    have f4 : W.length + 1 ≤ 4611686018427387904 := by omega
    have f5 : W.length ≤ 140737488355327 := by omega
    have f6 : W.length ≤ 4611686018427387903 := by omega
    have f7 : ∀ v, a32 W ++ [c32 v] = a32 (W ++ [v]) := a32_snoc W
    clear c_
    refine AW.skip ?_
    repeat refine AW.seq ?_
    refine AW.block ?_
    repeat refine AW.seq ?_
    refine AW.drw 31 [1672] (by kernel_rfl) (h := ?_)
    iterate 31 refine ADL.dm 1 (h := ?_)
    refine ADL.done hmix rfl rfl (hT := ?_)
    iterate 2 refine AOL.s1 (h := ?_)
    refine AOL.nil ?_
    repeat refine AW.seq ?_
    refine AW.let 1672 (h := ?_)
    refine AW.reg ?_
    iterate 3 refine AOL.s1 (h := ?_)
    refine AOL.nil ?_
    exact ⟨r.length, by simp only [List.length_cons]; omega, j + 4, W ++ [wrd a b c d], r, by rw [List.length_append]; rfl, h4, hj3, rfl, by simp only [List.length_append, List.length_cons, List.length_nil]; omega, by rw [List.append_assoc]; exact hi⟩
  · have hj3 : ¬ j + 3 < L.length := by simp at c_; omega
    have hrl : r.length = L.length - j := by rw [← hr, List.length_drop]
    rw [wrdF_0 (by omega), List.append_nil] at hi
    subst hi
    repeat refine AW.seq ?_
    refine AW.exit ?_
    repeat (first | refine Kseq.ex ?_ | refine Kloop.ex ?_ | refine Kblock.miss (by decide) ?_)
    refine Kblock.hit ?_
    refine AW.kq [3] (h := ?_)
    repeat refine AW.seq ?_
    refine AW.reg ?_
    iterate 2 refine AOL.s1 (h := ?_)
    refine AOL.nil ?_
    refine AW.kq [2] (h := ?_)
    refine AW.fz 1048 rfl (fun h => by cases h) (h := ?_)
    repeat refine AW.seq ?_
    refine AW.ret ?_
    refine ⟨_, [], rfl, HOk.nil _, ?_⟩
    show AV.sl _ (sub 0 _ (a32 (wrdF L))) = _
    rw [a32_sub]
end Go.Proofs.Ythajlelljnkdiaa.E.M

