/- RankStays: what is handed in stays as it is: a contract over E. -/
import Derived.Test.YtjeafkodcmbabaaDoorRkd
import Derived.Test.YtjeafkodcmbabaaDoorRkb
import Derived.Test.YtjeafkodcmbabaaDoorSmo
import Derived.Test.YtjeafkodcmbabaaDoorProg
import Derived.KernelRfl
set_option linter.unusedVariables false
set_option linter.unusedSimpArgs false
set_option maxRecDepth 10000
open Go Go.Proofs.YtjeafkodcmbabaaDoor.E Go.Proofs
namespace Go.Proofs.YtjeafkodcmbabaaDoor.E.M
set_option maxHeartbeats 8000000 in
theorem obollaw11_RankStays_c {s : Rk} {L : List Tm} {V : List Int} (hW : wR s) (hT : wT L) (hV : wV V) : Fn Tryd.prog 5 [.agg (rk s), slF tm L, ul V] [] (fun r h_ => r = bo true) := by
  refine Fn.enter Tryd.func5 Tryd.ntmps5 rfl (h := ?_)
  have tf := tfr
  have ot_ : (false || true) = true := rfl
  obtain ⟨sv, sp, R⟩ := s
  have cL := obolref11_Light_c (s := ⟨sv, sp, R⟩)
  have hLL := fun h => light_len (s := ⟨sv, sp, R⟩) h
  replace cL : Fn Tryd.prog 7 [.agg [i sv, i sp, slF rw_ R]] [] (fun r h_ => r = bo (lightF ⟨sv, sp, R⟩)) := cL
  generalize lightF ⟨sv, sp, R⟩ = lt at *
  repeat refine AW.seq ?_
  refine AW.reg ?_
  iterate 2 refine AOL.s1 (h := ?_)
  refine AOL.nil ?_
  refine AW.kq [1, 2, 3] (h := ?_)
  repeat refine AW.seq ?_
  refine AW.reg ?_
  refine AOL.callD rfl (obollaw11_up_c) (by kernel_rfl) rfl rfl (h := ?_)
  iterate 1 refine AOL.s1 (h := ?_)
  refine AOL.nil ?_
  refine AW.kq [1, 2, 3, 7] (h := ?_)
  repeat refine AW.seq ?_
  refine AW.reg ?_
  iterate 1 refine AOL.s1 (h := ?_)
  refine AOL.callD rfl (cL) (by kernel_rfl) rfl rfl (h := ?_)
  iterate 1 refine AOL.s1 (h := ?_)
  refine AOL.nil ?_
  refine AW.kq [1, 2, 3, 7, 8] (h := ?_)
  repeat refine AW.seq ?_
  refine AW.reg ?_
  iterate 3 refine AOL.s1 (h := ?_)
  refine AOL.kq [1, 2, 3, 7, 21] (h := ?_)
  refine AOL.or 21 25 (os' := ?_) (x := ?_) (h1 := ?_) (h0 := ?_) (h := ?_)
  rotate_left 2
  iterate 2
    · intro hb_ K' hK; (iterate 4 refine AOL.s1 (h := ?_)); refine AOL.kq [1, 2, 3, 7, 25] (h := ?_); exact hK
  iterate 1 refine AOL.s1 (h := ?_)
  refine AOL.kq [1, 2, 3, 7, 26] (h := ?_)
  refine AOL.or 26 30 (os' := ?_) (x := ?_) (h1 := ?_) (h0 := ?_) (h := ?_)
  rotate_left 2
  iterate 2
    · intro hb_ K' hK; (iterate 4 refine AOL.s1 (h := ?_)); refine AOL.kq [1, 2, 3, 7, 30] (h := ?_); exact hK
  refine AOL.nil ?_
  refine AW.kq [1, 2, 3, 7, 30] (h := ?_)
  repeat refine AW.seq ?_
  refine AW.cond rfl (fun c_ => ?_) (fun c_ => ?_)
  · repeat refine AW.seq ?_
    refine AW.reg ?_
    iterate 2 refine AOL.s1 (h := ?_)
    refine AOL.nil ?_
    refine AW.kq [6] (h := ?_)
    repeat refine AW.seq ?_
    refine AW.ret ?_
    refine ⟨_, [], rfl, HOk.nil _, ?_⟩
    rfl
  have hlt : lt = true ∧ V.length ≤ 5000 ∧ L.length ≤ 60 := by
    cases lt
    · simp at c_
    · refine ⟨rfl, ?_⟩
      simp at c_; omega
  obtain ⟨rfl, hl5, hl6⟩ := hlt
  obtain ⟨l200, hLn⟩ := hLL rfl
  have cH := rank_Holds_c (s := ⟨sv, sp, R⟩) (V := V) hLn hW hV (by omega)
  have hK := holds_kind ⟨sv, sp, R⟩ V
  replace cH : Fn Tryd.prog 8 [.agg [i sv, i sp, slF rw_ R], ul V] [] (fun r h_ => r = holdsF ⟨sv, sp, R⟩ V) := cH
  generalize holdsF ⟨sv, sp, R⟩ V = e at *
  have cS := rank_Sum_own_c (L := L) (by omega) hT
  have cE := obolref11_Same_c (L := L) (by omega)
  have lQ : (sumT L).length ≤ 60 := Nat.le_trans (sum_len L) hl6
  generalize sumT L = Q at *
  have av : ∀ k : Nat, (h : k < V.length) → (fm u1 V).drop k = u V[k] :: fm u1 (V.drop (k + 1)) := fun k h => by have := fm_at (f := u1) u1_len h; rw [Nat.mul_one] at this; exact this
  have lV : (fm u1 V).length = V.length := by rw [fm_len u1_len, Nat.mul_one]
  have lL : (fm tm L).length = L.length * 2 := fm_len tm_len L
  have b1 : V.length * 8 ≤ 140737488355328 := by omega
  have b2 : V.length ≤ 4611686018427387904 := by omega
  have b3 : L.length * 16 ≤ 140737488355328 := by omega
  have b4 : L.length ≤ 4611686018427387904 := by omega
  clear c_ hLL cL hW hV hLn hT
  refine AW.skip ?_
  repeat refine AW.seq ?_
  refine AW.reg ?_
  iterate 4 refine AOL.s1 (h := ?_)
  refine AOL.nil ?_
  refine AW.kq [1, 2, 3, 7, 9] (h := ?_)
  refine AW.fz 1512 rfl (fun h => by cases h) (h := ?_)
  rw [show AV.sl V.length (sub 0 (V.length * 1) (fm u1 V)) = ul V by rw [sub_all (by rw [lV, Nat.mul_one]; exact Nat.le_refl _)]]
  repeat refine AW.seq ?_
  refine AW.reg ?_
  iterate 4 refine AOL.s1 (h := ?_)
  refine AOL.nil ?_
  refine AW.kq [1, 2, 3, 7, 9, 10] (h := ?_)
  refine AW.fz 1560 rfl (fun h => by cases h) (h := ?_)
  rw [show AV.sl L.length (sub 0 (L.length * 2) (fm tm L)) = slF tm L by rw [sub_all (by rw [lL]; exact Nat.le_refl _)]]
  repeat refine AW.seq ?_
  clear b1 b2 b3 b4 lL
  rcases hK with rfl | ⟨n1, rfl⟩ | ⟨n1, rfl⟩
  · refine AW.reg ?_
    iterate 2 refine AOL.s1 (h := ?_)
    refine AOL.callD rfl (cH) (by kernel_rfl) rfl rfl (h := ?_)
    iterate 1 refine AOL.s1 (h := ?_)
    refine AOL.nil ?_
    refine AW.kq [1, 2, 3, 7, 9, 10, 11] (h := ?_)
    repeat refine AW.seq ?_
    refine AW.reg ?_
    iterate 1 refine AOL.s1 (h := ?_)
    refine AOL.callO 1672 (cS) rfl (by kernel_rfl) rfl (by first | rfl | exact frees_fm (fun _ => rfl) _ | exact a64_free _ | exact by8_free _) (by intro l_ hl_; simp [labs, labss] at hl_ <;> exact hl_) (by decide) (by simp only [St.drop, mapT, mapH, kill, kills, del, St.put, ins, ren, rens, reduceIte, Nat.reduceLT, Nat.reduceEqDiff, Bool.false_eq_true]; exact rfl) ?_
    iterate 1 refine AOL.s1 (h := ?_)
    refine AOL.nil ?_
    refine AW.kq [1, 2, 3, 7, 9, 10, 11, 12] (h := ?_)
    repeat refine AW.seq ?_
    refine AW.reg ?_
    iterate 1 refine AOL.s1 (h := ?_)
    refine AOL.nil ?_
    refine AW.kq [1, 2, 3, 7, 9, 10, 11, 12, 13] (h := ?_)
    repeat refine AW.seq ?_
    refine AW.block ?_
    repeat refine AW.seq ?_
    refine AW.loopK [1, 2, 3, 7, 9, 10, 11, 12, 13] (fun n s => ∃ (k : Nat) (Y : List Tm), s = ⟨84, [(1, slF tm L), (2, ul V), (3, .ptr 1048 0), (7, bo true), (9, ul V), (10, slF tm L), (11, nil_), (12, .ref 1672 0 Q.length 2), (13, i k)], [(1048, ⟨24, true, [i sv, i sp, slF rw_ R]⟩), (1672, ⟨41, false, fm tm Y⟩)]⟩ ∧ Y.length = Q.length ∧ k ≤ Q.length ∧ n = Q.length - k) Q.length ?_ ?_
    · exact ⟨0, Q, rfl, rfl, Nat.zero_le _, rfl⟩
    rintro n s ⟨k, Y, rfl, hY, hkl, rfl⟩
    repeat refine AW.seq ?_
    refine AW.reg ?_
    iterate 4 refine AOL.s1 (h := ?_)
    refine AOL.nil ?_
    refine AW.kq [1, 2, 3, 7, 9, 10, 11, 12, 13, 46] (h := ?_)
    repeat refine AW.seq ?_
    refine AW.cond rfl (fun c_ => ?_) (fun c_ => ?_)
    · have h1 : k < Q.length := by simpa using c_
      have k0 : (0:Int) ≤ k := by omega
      have k1 : (k:Int) < Q.length := by omega
      have hw := incq h1 (show Q.length < 1000000000 by omega)
      obtain ⟨A, m, D, rfl, hA⟩ : ∃ A m D, Y = A ++ (m :: []) ++ D ∧ A.length = k := ⟨Y.take k, Y[k], Y.drop (k + 1), by rw [List.append_assoc, List.singleton_append, ← List.drop_eq_getElem_cons (by omega), List.take_append_drop], by rw [List.length_take]; omega⟩
      have spl := spl_tm A [] D m ⟨0, 0⟩
      have lc : (fm tm (A ++ [m] ++ D)).length = Q.length * 2 := by rw [fm_len tm_len, hY]
      have b2 : k * 2 + 2 ≤ Q.length * 2 := by omega
      rw [hA] at spl
      clear c_
      replace hY := hidk hY
      replace hA := hidk hA
      refine AW.skip ?_
      repeat refine AW.seq ?_
      refine AW.block ?_
      repeat refine AW.seq ?_
      refine AW.reg ?_
      iterate 5 refine AOL.s1 (h := ?_)
      refine AOL.nil ?_
      repeat refine AW.seq ?_
      refine AW.reg ?_
      iterate 3 refine AOL.s1 (h := ?_)
      refine AOL.nil ?_
      refine ⟨Q.length - (k + 1), by omega, k + 1, A ++ [⟨0, 0⟩] ++ [] ++ D, ?_, ?_, h1, rfl⟩
      · rw [← spl]; rfl
      · have hY' : (A ++ [m] ++ D).length = Q.length := hY
        rw [← hY']; simp
    · skip
      repeat refine AW.seq ?_
      refine AW.exit ?_
      repeat (first | refine Kseq.ex ?_ | refine Kloop.ex ?_ | refine Kblock.miss (by decide) ?_)
      refine Kblock.hit ?_
      refine AW.kq [1, 2, 3, 7, 9, 10, 11] (h := ?_)
      refine AW.let 1672 (h := ?_)
      repeat refine AW.seq ?_
      refine AW.reg ?_
      iterate 2 refine AOL.s1 (h := ?_)
      refine AOL.callD rfl (cH) (by kernel_rfl) rfl rfl (h := ?_)
      iterate 1 refine AOL.s1 (h := ?_)
      refine AOL.nil ?_
      refine AW.kq [1, 2, 7, 9, 10, 11, 14] (h := ?_)
      repeat refine AW.seq ?_
      refine AW.reg ?_
      iterate 1 refine AOL.s1 (h := ?_)
      refine AOL.nil ?_
      refine AW.kq [1, 2, 7, 9, 10, 11, 14, 15] (h := ?_)
      repeat refine AW.seq ?_
      clear c_ hY
      refine AW.block ?_
      repeat refine AW.seq ?_
      refine AW.loopK [1, 2, 7, 9, 10, 11, 14, 15] (fun n s => ∃ (k : Nat), s = ⟨84, [(1, slF tm L), (2, ul V), (7, bo true), (9, ul V), (10, slF tm L), (11, nil_), (14, nil_), (15, i k)], [(1048, ⟨24, true, [i sv, i sp, slF rw_ R]⟩)]⟩ ∧ k ≤ V.length ∧ n = V.length - k) V.length ?_ ?_
      · exact ⟨0, rfl, Nat.zero_le _, rfl⟩
      rintro n s ⟨k, rfl, hkl, rfl⟩
      repeat refine AW.seq ?_
      refine AW.reg ?_
      iterate 4 refine AOL.s1 (h := ?_)
      refine AOL.nil ?_
      refine AW.kq [1, 2, 7, 9, 10, 11, 14, 15, 59] (h := ?_)
      repeat refine AW.seq ?_
      refine AW.cond rfl (fun c_ => ?_) (fun c_ => ?_)
      · have h1 : k < V.length := by simpa using c_
        have k0 : (0:Int) ≤ k := by omega
        have k1 : (k:Int) < V.length := by omega
        have hw := incq h1 (show V.length < 1000000000 by omega)
        have hd := av k h1
        clear c_
        generalize V[k] = x at *
        refine AW.skip ?_
        repeat refine AW.seq ?_
        refine AW.block ?_
        repeat refine AW.seq ?_
        refine AW.drw 8 [] (by kernel_rfl) (h := ?_)
        iterate 8 refine ADL.dm 1 (h := ?_)
        refine ADL.done hmix rfl rfl (hT := ?_)
        iterate 1 refine AOL.s1 (h := ?_)
        refine AOL.nil ?_
        refine AW.kq [1, 2, 7, 9, 10, 11, 14, 15, 70] (h := ?_)
        repeat refine AW.seq ?_
        refine AW.cond rfl (fun d_ => ?_) (fun d_ => ?_)
        · simp at d_
        refine AW.skip ?_
        repeat refine AW.seq ?_
        refine AW.reg ?_
        iterate 3 refine AOL.s1 (h := ?_)
        refine AOL.nil ?_
        exact ⟨V.length - (k + 1), by omega, k + 1, rfl, h1, rfl⟩
      · skip
        repeat refine AW.seq ?_
        refine AW.exit ?_
        repeat (first | refine Kseq.ex ?_ | refine Kloop.ex ?_ | refine Kblock.miss (by decide) ?_)
        refine Kblock.hit ?_
        refine AW.kq [1, 7, 10, 11, 14] (h := ?_)
        repeat refine AW.seq ?_
        refine AW.drw 11 [] (by kernel_rfl) (h := ?_)
        iterate 4 refine ADL.dm 1 (h := ?_)
        refine ADL.call rfl (cE) (by kernel_rfl) rfl rfl (h := ?_)
        iterate 6 refine ADL.dm 1 (h := ?_)
        refine ADL.done hmix rfl rfl (hT := ?_)
        refine AOL.kq [77, 79, 81] (h := ?_)
        iterate 3 refine AOL.s1 (h := ?_)
        refine AOL.nil ?_
        refine AW.kq [6] (h := ?_)
        repeat refine AW.seq ?_
        refine AW.ret ?_
        refine ⟨_, [], rfl, HOk.nil _, ?_⟩
        rfl
  · refine AW.reg ?_
    iterate 2 refine AOL.s1 (h := ?_)
    refine AOL.callD rfl (cH) (by kernel_rfl) rfl rfl (h := ?_)
    iterate 1 refine AOL.s1 (h := ?_)
    refine AOL.nil ?_
    refine AW.kq [1, 2, 3, 7, 9, 10, 11] (h := ?_)
    repeat refine AW.seq ?_
    refine AW.reg ?_
    iterate 1 refine AOL.s1 (h := ?_)
    refine AOL.callO 1672 (cS) rfl (by kernel_rfl) rfl (by first | rfl | exact frees_fm (fun _ => rfl) _ | exact a64_free _ | exact by8_free _) (by intro l_ hl_; simp [labs, labss] at hl_ <;> exact hl_) (by decide) (by simp only [St.drop, mapT, mapH, kill, kills, del, St.put, ins, ren, rens, reduceIte, Nat.reduceLT, Nat.reduceEqDiff, Bool.false_eq_true]; exact rfl) ?_
    iterate 1 refine AOL.s1 (h := ?_)
    refine AOL.nil ?_
    refine AW.kq [1, 2, 3, 7, 9, 10, 11, 12] (h := ?_)
    repeat refine AW.seq ?_
    refine AW.reg ?_
    iterate 1 refine AOL.s1 (h := ?_)
    refine AOL.nil ?_
    refine AW.kq [1, 2, 3, 7, 9, 10, 11, 12, 13] (h := ?_)
    repeat refine AW.seq ?_
    refine AW.block ?_
    repeat refine AW.seq ?_
    refine AW.loopK [1, 2, 3, 7, 9, 10, 11, 12, 13] (fun n s => ∃ (k : Nat) (Y : List Tm), s = ⟨84, [(1, slF tm L), (2, ul V), (3, .ptr 1048 0), (7, bo true), (9, ul V), (10, slF tm L), (11, er n1), (12, .ref 1672 0 Q.length 2), (13, i k)], [(1048, ⟨24, true, [i sv, i sp, slF rw_ R]⟩), (1672, ⟨41, false, fm tm Y⟩)]⟩ ∧ Y.length = Q.length ∧ k ≤ Q.length ∧ n = Q.length - k) Q.length ?_ ?_
    · exact ⟨0, Q, rfl, rfl, Nat.zero_le _, rfl⟩
    rintro n s ⟨k, Y, rfl, hY, hkl, rfl⟩
    repeat refine AW.seq ?_
    refine AW.reg ?_
    iterate 4 refine AOL.s1 (h := ?_)
    refine AOL.nil ?_
    refine AW.kq [1, 2, 3, 7, 9, 10, 11, 12, 13, 46] (h := ?_)
    repeat refine AW.seq ?_
    refine AW.cond rfl (fun c_ => ?_) (fun c_ => ?_)
    · have h1 : k < Q.length := by simpa using c_
      have k0 : (0:Int) ≤ k := by omega
      have k1 : (k:Int) < Q.length := by omega
      have hw := incq h1 (show Q.length < 1000000000 by omega)
      obtain ⟨A, m, D, rfl, hA⟩ : ∃ A m D, Y = A ++ (m :: []) ++ D ∧ A.length = k := ⟨Y.take k, Y[k], Y.drop (k + 1), by rw [List.append_assoc, List.singleton_append, ← List.drop_eq_getElem_cons (by omega), List.take_append_drop], by rw [List.length_take]; omega⟩
      have spl := spl_tm A [] D m ⟨0, 0⟩
      have lc : (fm tm (A ++ [m] ++ D)).length = Q.length * 2 := by rw [fm_len tm_len, hY]
      have b2 : k * 2 + 2 ≤ Q.length * 2 := by omega
      rw [hA] at spl
      clear c_
      replace hY := hidk hY
      replace hA := hidk hA
      refine AW.skip ?_
      repeat refine AW.seq ?_
      refine AW.block ?_
      repeat refine AW.seq ?_
      refine AW.reg ?_
      iterate 5 refine AOL.s1 (h := ?_)
      refine AOL.nil ?_
      repeat refine AW.seq ?_
      refine AW.reg ?_
      iterate 3 refine AOL.s1 (h := ?_)
      refine AOL.nil ?_
      refine ⟨Q.length - (k + 1), by omega, k + 1, A ++ [⟨0, 0⟩] ++ [] ++ D, ?_, ?_, h1, rfl⟩
      · rw [← spl]; rfl
      · have hY' : (A ++ [m] ++ D).length = Q.length := hY
        rw [← hY']; simp
    · skip
      repeat refine AW.seq ?_
      refine AW.exit ?_
      repeat (first | refine Kseq.ex ?_ | refine Kloop.ex ?_ | refine Kblock.miss (by decide) ?_)
      refine Kblock.hit ?_
      refine AW.kq [1, 2, 3, 7, 9, 10, 11] (h := ?_)
      refine AW.let 1672 (h := ?_)
      repeat refine AW.seq ?_
      refine AW.reg ?_
      iterate 2 refine AOL.s1 (h := ?_)
      refine AOL.callD rfl (cH) (by kernel_rfl) rfl rfl (h := ?_)
      iterate 1 refine AOL.s1 (h := ?_)
      refine AOL.nil ?_
      refine AW.kq [1, 2, 7, 9, 10, 11, 14] (h := ?_)
      repeat refine AW.seq ?_
      refine AW.reg ?_
      iterate 1 refine AOL.s1 (h := ?_)
      refine AOL.nil ?_
      refine AW.kq [1, 2, 7, 9, 10, 11, 14, 15] (h := ?_)
      repeat refine AW.seq ?_
      clear c_ hY
      refine AW.block ?_
      repeat refine AW.seq ?_
      refine AW.loopK [1, 2, 7, 9, 10, 11, 14, 15] (fun n s => ∃ (k : Nat), s = ⟨84, [(1, slF tm L), (2, ul V), (7, bo true), (9, ul V), (10, slF tm L), (11, er n1), (14, er n1), (15, i k)], [(1048, ⟨24, true, [i sv, i sp, slF rw_ R]⟩)]⟩ ∧ k ≤ V.length ∧ n = V.length - k) V.length ?_ ?_
      · exact ⟨0, rfl, Nat.zero_le _, rfl⟩
      rintro n s ⟨k, rfl, hkl, rfl⟩
      repeat refine AW.seq ?_
      refine AW.reg ?_
      iterate 4 refine AOL.s1 (h := ?_)
      refine AOL.nil ?_
      refine AW.kq [1, 2, 7, 9, 10, 11, 14, 15, 59] (h := ?_)
      repeat refine AW.seq ?_
      refine AW.cond rfl (fun c_ => ?_) (fun c_ => ?_)
      · have h1 : k < V.length := by simpa using c_
        have k0 : (0:Int) ≤ k := by omega
        have k1 : (k:Int) < V.length := by omega
        have hw := incq h1 (show V.length < 1000000000 by omega)
        have hd := av k h1
        clear c_
        generalize V[k] = x at *
        refine AW.skip ?_
        repeat refine AW.seq ?_
        refine AW.block ?_
        repeat refine AW.seq ?_
        refine AW.drw 8 [] (by kernel_rfl) (h := ?_)
        iterate 8 refine ADL.dm 1 (h := ?_)
        refine ADL.done hmix rfl rfl (hT := ?_)
        iterate 1 refine AOL.s1 (h := ?_)
        refine AOL.nil ?_
        refine AW.kq [1, 2, 7, 9, 10, 11, 14, 15, 70] (h := ?_)
        repeat refine AW.seq ?_
        refine AW.cond rfl (fun d_ => ?_) (fun d_ => ?_)
        · simp at d_
        refine AW.skip ?_
        repeat refine AW.seq ?_
        refine AW.reg ?_
        iterate 3 refine AOL.s1 (h := ?_)
        refine AOL.nil ?_
        exact ⟨V.length - (k + 1), by omega, k + 1, rfl, h1, rfl⟩
      · skip
        repeat refine AW.seq ?_
        refine AW.exit ?_
        repeat (first | refine Kseq.ex ?_ | refine Kloop.ex ?_ | refine Kblock.miss (by decide) ?_)
        refine Kblock.hit ?_
        refine AW.kq [1, 7, 10, 11, 14] (h := ?_)
        repeat refine AW.seq ?_
        refine AW.drw 11 [] (by kernel_rfl) (h := ?_)
        iterate 4 refine ADL.dm 1 (h := ?_)
        refine ADL.call rfl (cE) (by kernel_rfl) rfl rfl (h := ?_)
        iterate 6 refine ADL.dm 1 (h := ?_)
        refine ADL.done hmix rfl rfl (hT := ?_)
        refine AOL.kq [77, 79, 81] (h := ?_)
        iterate 3 refine AOL.s1 (h := ?_)
        refine AOL.nil ?_
        refine AW.kq [6] (h := ?_)
        repeat refine AW.seq ?_
        refine AW.ret ?_
        refine ⟨_, [], rfl, HOk.nil _, ?_⟩
        rfl
  · refine AW.reg ?_
    iterate 2 refine AOL.s1 (h := ?_)
    refine AOL.callD rfl (cH) (by kernel_rfl) rfl rfl (h := ?_)
    iterate 1 refine AOL.s1 (h := ?_)
    refine AOL.nil ?_
    refine AW.kq [1, 2, 3, 7, 9, 10, 11] (h := ?_)
    repeat refine AW.seq ?_
    refine AW.reg ?_
    iterate 1 refine AOL.s1 (h := ?_)
    refine AOL.callO 1672 (cS) rfl (by kernel_rfl) rfl (by first | rfl | exact frees_fm (fun _ => rfl) _ | exact a64_free _ | exact by8_free _) (by intro l_ hl_; simp [labs, labss] at hl_ <;> exact hl_) (by decide) (by simp only [St.drop, mapT, mapH, kill, kills, del, St.put, ins, ren, rens, reduceIte, Nat.reduceLT, Nat.reduceEqDiff, Bool.false_eq_true]; exact rfl) ?_
    iterate 1 refine AOL.s1 (h := ?_)
    refine AOL.nil ?_
    refine AW.kq [1, 2, 3, 7, 9, 10, 11, 12] (h := ?_)
    repeat refine AW.seq ?_
    refine AW.reg ?_
    iterate 1 refine AOL.s1 (h := ?_)
    refine AOL.nil ?_
    refine AW.kq [1, 2, 3, 7, 9, 10, 11, 12, 13] (h := ?_)
    repeat refine AW.seq ?_
    refine AW.block ?_
    repeat refine AW.seq ?_
    refine AW.loopK [1, 2, 3, 7, 9, 10, 11, 12, 13] (fun n s => ∃ (k : Nat) (Y : List Tm), s = ⟨84, [(1, slF tm L), (2, ul V), (3, .ptr 1048 0), (7, bo true), (9, ul V), (10, slF tm L), (11, spot n1 8), (12, .ref 1672 0 Q.length 2), (13, i k)], [(1048, ⟨24, true, [i sv, i sp, slF rw_ R]⟩), (1672, ⟨41, false, fm tm Y⟩)]⟩ ∧ Y.length = Q.length ∧ k ≤ Q.length ∧ n = Q.length - k) Q.length ?_ ?_
    · exact ⟨0, Q, rfl, rfl, Nat.zero_le _, rfl⟩
    rintro n s ⟨k, Y, rfl, hY, hkl, rfl⟩
    repeat refine AW.seq ?_
    refine AW.reg ?_
    iterate 4 refine AOL.s1 (h := ?_)
    refine AOL.nil ?_
    refine AW.kq [1, 2, 3, 7, 9, 10, 11, 12, 13, 46] (h := ?_)
    repeat refine AW.seq ?_
    refine AW.cond rfl (fun c_ => ?_) (fun c_ => ?_)
    · have h1 : k < Q.length := by simpa using c_
      have k0 : (0:Int) ≤ k := by omega
      have k1 : (k:Int) < Q.length := by omega
      have hw := incq h1 (show Q.length < 1000000000 by omega)
      obtain ⟨A, m, D, rfl, hA⟩ : ∃ A m D, Y = A ++ (m :: []) ++ D ∧ A.length = k := ⟨Y.take k, Y[k], Y.drop (k + 1), by rw [List.append_assoc, List.singleton_append, ← List.drop_eq_getElem_cons (by omega), List.take_append_drop], by rw [List.length_take]; omega⟩
      have spl := spl_tm A [] D m ⟨0, 0⟩
      have lc : (fm tm (A ++ [m] ++ D)).length = Q.length * 2 := by rw [fm_len tm_len, hY]
      have b2 : k * 2 + 2 ≤ Q.length * 2 := by omega
      rw [hA] at spl
      clear c_
      replace hY := hidk hY
      replace hA := hidk hA
      refine AW.skip ?_
      repeat refine AW.seq ?_
      refine AW.block ?_
      repeat refine AW.seq ?_
      refine AW.reg ?_
      iterate 5 refine AOL.s1 (h := ?_)
      refine AOL.nil ?_
      repeat refine AW.seq ?_
      refine AW.reg ?_
      iterate 3 refine AOL.s1 (h := ?_)
      refine AOL.nil ?_
      refine ⟨Q.length - (k + 1), by omega, k + 1, A ++ [⟨0, 0⟩] ++ [] ++ D, ?_, ?_, h1, rfl⟩
      · rw [← spl]; rfl
      · have hY' : (A ++ [m] ++ D).length = Q.length := hY
        rw [← hY']; simp
    · skip
      repeat refine AW.seq ?_
      refine AW.exit ?_
      repeat (first | refine Kseq.ex ?_ | refine Kloop.ex ?_ | refine Kblock.miss (by decide) ?_)
      refine Kblock.hit ?_
      refine AW.kq [1, 2, 3, 7, 9, 10, 11] (h := ?_)
      refine AW.let 1672 (h := ?_)
      repeat refine AW.seq ?_
      refine AW.reg ?_
      iterate 2 refine AOL.s1 (h := ?_)
      refine AOL.callD rfl (cH) (by kernel_rfl) rfl rfl (h := ?_)
      iterate 1 refine AOL.s1 (h := ?_)
      refine AOL.nil ?_
      refine AW.kq [1, 2, 7, 9, 10, 11, 14] (h := ?_)
      repeat refine AW.seq ?_
      refine AW.reg ?_
      iterate 1 refine AOL.s1 (h := ?_)
      refine AOL.nil ?_
      refine AW.kq [1, 2, 7, 9, 10, 11, 14, 15] (h := ?_)
      repeat refine AW.seq ?_
      clear c_ hY
      refine AW.block ?_
      repeat refine AW.seq ?_
      refine AW.loopK [1, 2, 7, 9, 10, 11, 14, 15] (fun n s => ∃ (k : Nat), s = ⟨84, [(1, slF tm L), (2, ul V), (7, bo true), (9, ul V), (10, slF tm L), (11, spot n1 8), (14, spot n1 8), (15, i k)], [(1048, ⟨24, true, [i sv, i sp, slF rw_ R]⟩)]⟩ ∧ k ≤ V.length ∧ n = V.length - k) V.length ?_ ?_
      · exact ⟨0, rfl, Nat.zero_le _, rfl⟩
      rintro n s ⟨k, rfl, hkl, rfl⟩
      repeat refine AW.seq ?_
      refine AW.reg ?_
      iterate 4 refine AOL.s1 (h := ?_)
      refine AOL.nil ?_
      refine AW.kq [1, 2, 7, 9, 10, 11, 14, 15, 59] (h := ?_)
      repeat refine AW.seq ?_
      refine AW.cond rfl (fun c_ => ?_) (fun c_ => ?_)
      · have h1 : k < V.length := by simpa using c_
        have k0 : (0:Int) ≤ k := by omega
        have k1 : (k:Int) < V.length := by omega
        have hw := incq h1 (show V.length < 1000000000 by omega)
        have hd := av k h1
        clear c_
        generalize V[k] = x at *
        refine AW.skip ?_
        repeat refine AW.seq ?_
        refine AW.block ?_
        repeat refine AW.seq ?_
        refine AW.drw 8 [] (by kernel_rfl) (h := ?_)
        iterate 8 refine ADL.dm 1 (h := ?_)
        refine ADL.done hmix rfl rfl (hT := ?_)
        iterate 1 refine AOL.s1 (h := ?_)
        refine AOL.nil ?_
        refine AW.kq [1, 2, 7, 9, 10, 11, 14, 15, 70] (h := ?_)
        repeat refine AW.seq ?_
        refine AW.cond rfl (fun d_ => ?_) (fun d_ => ?_)
        · simp at d_
        refine AW.skip ?_
        repeat refine AW.seq ?_
        refine AW.reg ?_
        iterate 3 refine AOL.s1 (h := ?_)
        refine AOL.nil ?_
        exact ⟨V.length - (k + 1), by omega, k + 1, rfl, h1, rfl⟩
      · skip
        repeat refine AW.seq ?_
        refine AW.exit ?_
        repeat (first | refine Kseq.ex ?_ | refine Kloop.ex ?_ | refine Kblock.miss (by decide) ?_)
        refine Kblock.hit ?_
        refine AW.kq [1, 7, 10, 11, 14] (h := ?_)
        repeat refine AW.seq ?_
        refine AW.drw 11 [] (by kernel_rfl) (h := ?_)
        iterate 4 refine ADL.dm 1 (h := ?_)
        refine ADL.call rfl (cE) (by kernel_rfl) rfl rfl (h := ?_)
        iterate 6 refine ADL.dm 1 (h := ?_)
        refine ADL.done hmix rfl rfl (hT := ?_)
        refine AOL.kq [77, 79, 81] (h := ?_)
        iterate 3 refine AOL.s1 (h := ?_)
        refine AOL.nil ?_
        refine AW.kq [6] (h := ?_)
        repeat refine AW.seq ?_
        refine AW.ret ?_
        refine ⟨_, [], rfl, HOk.nil _, ?_⟩
        rfl
end Go.Proofs.YtjeafkodcmbabaaDoor.E.M

