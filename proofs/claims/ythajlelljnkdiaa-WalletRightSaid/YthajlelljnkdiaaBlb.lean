/- obolref05.Bytes: a contract over E. -/
import Derived.Test.YthajlelljnkdiaaBlw
import Derived.Test.YthajlelljnkdiaaProg
import Derived.KernelRfl
set_option linter.unusedVariables false
set_option linter.unusedSimpArgs false
set_option maxRecDepth 10000
open Go Go.Proofs.Ythajlelljnkdiaa.E Go.Proofs
namespace Go.Proofs.Ythajlelljnkdiaa.E.M
abbrev k8 (L : List Int) : Blk := ⟨5, false, by8 L⟩
def b4 (w : Int) : List Int := [IntKind.u8.wrap w, IntKind.u8.wrap (w.fdiv (2 ^ min 8 IntKind.u32.bits)), IntKind.u8.wrap (w.fdiv (2 ^ min 16 IntKind.u32.bits)), IntKind.u8.wrap (w.fdiv (2 ^ min 24 IntKind.u32.bits))]
def bytF : List Int → List Int
  | [] => []
  | w :: r => b4 w ++ bytF r
theorem bytF_len : ∀ W : List Int, (bytF W).length = 4 * W.length
  | [] => rfl
  | w :: r => by show (b4 w ++ bytF r).length = _; rw [List.length_append, bytF_len r, List.length_cons]; show 4 + _ = _; omega
theorem a32_dr {W : List Int} {k : Nat} {v : Int} {r : List Int} (h : W.drop k = v :: r) : (a32 W).drop k = c32 v :: a32 r := by unfold a32; rw [← List.map_drop, h]; rfl
theorem by8_sub (L : List Int) : sub 0 (L.length * 1) (by8 L) = by8 L := sub_all (by rw [by8_len]; omega)
theorem by8_4 (L : List Int) (a b c d : Int) : by8 L ++ [.val (.int .u8 a), .val (.int .u8 b), .val (.int .u8 c), .val (.int .u8 d)] = by8 (L ++ [a, b, c, d]) := by8_app L [a, b, c, d]
set_option maxHeartbeats 4000000 in
theorem obolref05_Bytes_c {W : List Int} (hL : W.length < 1000000) : Fn Try.prog 59 [sl32 W] [] (fun r h_ => r = sl8 (bytF W)) := by
  refine Fn.enter Try.func59 Try.ntmps59 rfl (h := ?_)
  have tf := tfk
  have ot_ : (false || true) = true := rfl
  repeat refine AW.seq ?_
  refine AW.reg ?_
  iterate 1 refine AOL.s1 (h := ?_)
  refine AOL.nil ?_
  refine AW.kq [0] (h := ?_)
  repeat refine AW.seq ?_
  refine AW.reg ?_
  iterate 1 refine AOL.s1 (h := ?_)
  refine AOL.nil ?_
  refine AW.kq [0, 3] (h := ?_)
  repeat refine AW.seq ?_
  refine AW.reg ?_
  iterate 1 refine AOL.s1 (h := ?_)
  refine AOL.nil ?_
  refine AW.kq [0, 3, 4] (h := ?_)
  repeat refine AW.seq ?_
  refine AW.block ?_
  repeat refine AW.seq ?_
  refine AW.born 3 1048 5 1 (.inl rfl) (h := ?_)
  refine AW.loopK [0, 3, 4] (fun n' s => ∃ (j : Nat) (O r : List Int), s = ⟨38, [(0, sl32 W), (3, .ref 1048 0 O.length 1), (4, i j)], [(1048, k8 O)]⟩ ∧ W.drop j = r ∧ j ≤ W.length ∧ n' = r.length ∧ O.length ≤ 4 * j ∧ O ++ bytF r = bytF W) (W.length) ?_ ?_
  · exact ⟨0, [], W, rfl, rfl, Nat.zero_le _, rfl, Nat.zero_le _, rfl⟩
  rintro n' s ⟨j, O, r, rfl, hr, hj, rfl, hO, hi⟩
  repeat refine AW.seq ?_
  refine AW.reg ?_
  iterate 4 refine AOL.s1 (h := ?_)
  refine AOL.nil ?_
  refine AW.kq [0, 3, 4, 8] (h := ?_)
  repeat refine AW.seq ?_
  refine AW.cond rfl (fun c_ => ?_) (fun c_ => ?_)
  · have hj3 : j < W.length := by simp at c_; omega
    have hrl : r.length = W.length - j := by rw [← hr, List.length_drop]
    obtain ⟨a, r, rfl⟩ := ends_cons hr hj (by simpa using c_)
    have hi : O ++ (b4 a ++ bytF r) = bytF W := hi
    have e4 : IntKind.i64.wrap ((j:Int) + 1) = ((j + 1 : Nat) : Int) := by rw [wrapI_o (by omega) (by omega)]; omega
    have d1 := a32_dr hr
    have h1 := drop_next hr
    have j0 : (0:Int) ≤ (j:Nat) := by omega
    have l0 : (j:Int) < W.length := by omega
    have f1 := by8_len O
    have f2 : O.length + 4 ≤ 140737488355328 := by omega
    have f3 : (O.length + 4) * 1 ≤ 140737488355328 := by omega
    have f4 : O.length + 4 ≤ 4611686018427387904 := by omega
    have f5 : O.length ≤ 140737488355324 := by omega
    have f6 : O.length ≤ 4611686018427387900 := by omega
    have f7 : ∀ a b c d, by8 O ++ [.val (.int .u8 a), .val (.int .u8 b), .val (.int .u8 c), .val (.int .u8 d)] = by8 (O ++ [a, b, c, d]) := by8_4 O
    clear c_
    refine AW.skip ?_
    repeat refine AW.seq ?_
    refine AW.block ?_
    repeat refine AW.seq ?_
    refine AW.drw 25 [1560] (by kernel_rfl) (h := ?_)
    iterate 25 refine ADL.dm 1 (h := ?_)
    refine ADL.done hmix rfl rfl (hT := ?_)
    iterate 2 refine AOL.s1 (h := ?_)
    refine AOL.nil ?_
    repeat refine AW.seq ?_
    refine AW.let 1560 (h := ?_)
    refine AW.reg ?_
    iterate 3 refine AOL.s1 (h := ?_)
    refine AOL.nil ?_
    exact ⟨r.length, by simp only [List.length_cons]; omega, j + 1, O ++ b4 a, r, by rw [List.length_append]; rfl, h1, hj3, rfl, by rw [List.length_append]; show O.length + 4 ≤ _; omega, by rw [List.append_assoc]; exact hi⟩
  · obtain rfl := ends_nil hr (by simpa using c_)
    have hi : O = bytF W := by rw [← hi]; exact (List.append_nil O).symm
    subst hi
    repeat refine AW.seq ?_
    refine AW.exit ?_
    repeat (first | refine Kseq.ex ?_ | refine Kloop.ex ?_ | refine Kblock.miss (by decide) ?_)
    refine Kblock.hit ?_
    refine AW.kq [3] (h := ?_)
    repeat refine AW.seq ?_
    refine AW.reg ?_
    iterate 2 refine AOL.s1 (h := ?_)
    refine AOL.nil ?_
    refine AW.kq [2] (h := ?_)
    refine AW.fz 1048 rfl (fun h => by cases h) (h := ?_)
    repeat refine AW.seq ?_
    refine AW.ret ?_
    refine ⟨_, [], rfl, HOk.nil _, ?_⟩
    show AV.sl _ (sub 0 _ (by8 (bytF W))) = _
    rw [by8_sub]
end Go.Proofs.Ythajlelljnkdiaa.E.M

