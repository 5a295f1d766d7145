/- slices.DeleteFunc at terms, its result told as a block of one's own. -/
import Derived.Test.YtjeafkodcmbabaaDoorDf
import Derived.Test.YtjeafkodcmbabaaDoorProg
import Derived.KernelRfl
set_option linter.unusedVariables false
set_option linter.unusedSimpArgs false
set_option maxRecDepth 10000
open Go Go.Proofs.YtjeafkodcmbabaaDoor.E Go.Proofs
namespace Go.Proofs.YtjeafkodcmbabaaDoor.E.M
set_option maxHeartbeats 8000000 in
theorem slices_DeleteFunc_own_c {L : List Tm} {g : FuncId} {p : Tm → Bool} (lV : L.length < 1000000000) (hcl : callable Tryd.prog g = true) (hg : ∀ v, Fn Tryd.prog g [.agg (tm v)] [] (fun r _ => r = bo (p v))) : Fn Tryd.prog 24 [.ref 0 0 L.length 2, .clo g []] [(0, ⟨41, false, fm tm L⟩)] (Tells (.ref 1000 0 (kept p L).length 2) [(1000, ⟨41, false, fm tm (kept p L)⟩)]) := by
  refine Fn.enter Tryd.func24 Tryd.ntmps24 rfl (h := ?_)
  have tf := tfr
  have ot_ : (false || true) = true := rfl
  have tfr := tfr
  have cI : Fn Tryd.prog 39 [.sl L.length (sub 0 (L.length * 2) (fm tm L)), .clo g []] [] (fun r _ => r = i (idxT p L 0)) := by
    rw [sub_all (by rw [fm_len tm_len]; exact Nat.le_refl _)]; exact slices_IndexFunc_api_Term_api_Term_c lV hcl hg
  repeat refine AW.seq ?_
  refine AW.reg ?_
  iterate 1 refine AOL.s1 (h := ?_)
  refine AOL.nil ?_
  refine AW.kq [0, 1] (h := ?_)
  repeat refine AW.seq ?_
  refine AW.reg ?_
  iterate 2 refine AOL.s1 (h := ?_)
  refine AOL.callB (st1 := ⟨0, [], []⟩) [(0, fm tm L)] (by intro p hp; simp only [List.mem_singleton] at hp; subst hp; exact ⟨_, rfl, rfl, fun h => by cases h⟩) rfl cI (by kernel_rfl) rfl (h := ?_)
  iterate 1 refine AOL.s1 (h := ?_)
  refine AOL.nil ?_
  refine AW.kq [0, 1, 5] (h := ?_)
  repeat refine AW.seq ?_
  refine AW.reg ?_
  iterate 2 refine AOL.s1 (h := ?_)
  refine AOL.nil ?_
  refine AW.kq [0, 1, 5, 12] (h := ?_)
  repeat refine AW.seq ?_
  refine AW.cond rfl (fun c_ => ?_) (fun c_ => ?_)
  · have hn := idx_none p L 0 (by simpa using c_)
    repeat refine AW.seq ?_
    refine AW.reg ?_
    iterate 2 refine AOL.s1 (h := ?_)
    refine AOL.nil ?_
    refine AW.kq [4] (h := ?_)
    refine AW.mv 0 1001 (h := ?_)
    repeat refine AW.seq ?_
    rw [hn]
    refine AW.ret ?_
    refine ⟨_, [(1001, _)], rfl, (fun p_ hp_ => by simp only [List.mem_singleton] at hp_; subst hp_; first | exact List.mem_cons_self | exact List.mem_cons_of_mem _ List.mem_cons_self | exact List.mem_cons_of_mem _ (List.mem_cons_of_mem _ List.mem_cons_self)), ?_⟩
    refine Tells.one 1001 (by decide) ?_
    first | rfl | exact frees_fm (fun _ => rfl) _ | exact a64_free _ | exact by8_free _
  obtain ⟨q, hq1, hq2, hq3, hq4⟩ := idx_some p L 0 (by simpa using c_)
  rw [Nat.zero_add] at hq1
  rw [hq1]
  clear c_ hq1
  have q1 : q < 1000000000 := by omega
  have hwq := incq hq2 lV
  have hdec : id (L.take q ++ [L[q]] ++ L.drop (q + 1) = L) := by
    show _ = _
    rw [List.append_assoc, List.singleton_append, ← List.drop_eq_getElem_cons hq2, List.take_append_drop]
  have hlen : id ((L.take q).length = q) := by show _ = _; rw [List.length_take]; omega
  have hk0 : id (L.take q = kept p (L.take (q + 1))) := by show _ = _; rw [kept_snoc p hq2, if_pos (hq4 hq2), hq3]
  clear hq3 hq4
  refine AW.skip ?_
  repeat refine AW.seq ?_
  refine AW.reg ?_
  iterate 3 refine AOL.s1 (h := ?_)
  refine AOL.nil ?_
  refine AW.kq [0, 1, 5, 6] (h := ?_)
  repeat refine AW.seq ?_
  refine AW.block ?_
  repeat refine AW.seq ?_
  refine AW.loopK [0, 1, 5, 6] (fun n s => ∃ (j : Nat) (K M : List Tm), s = ⟨42, [(0, .ref 0 0 L.length 2), (1, .clo g []), (5, i K.length), (6, i j)], [(0, ⟨41, false, fm tm (K ++ M ++ L.drop j)⟩)]⟩ ∧ j ≤ L.length ∧ n = L.length - j ∧ K.length + M.length = j ∧ id (K = kept p (L.take j)) ∧ 0 < M.length) (L.length - (q + 1)) ?_ ?_
  · exact ⟨q + 1, L.take q, [L[q]], by rw [show _ = _ from hdec, show _ = _ from hlen], hq2, rfl, by rw [show _ = _ from hlen]; rfl, hk0, by simp⟩
  rintro n s ⟨j, K, M, rfl, hjl, rfl, hKM, hK, hM⟩
  repeat refine AW.seq ?_
  refine AW.reg ?_
  iterate 4 refine AOL.s1 (h := ?_)
  refine AOL.nil ?_
  refine AW.kq [0, 1, 5, 6, 19] (h := ?_)
  repeat refine AW.seq ?_
  refine AW.cond rfl (fun d_ => ?_) (fun d_ => ?_)
  · have h1 : j < L.length := by have : (j:Int) < L.length := by simpa using d_
                                 omega
    have hgj : (K ++ M ++ L.drop j)[j]? = some L[j] := by
      rw [List.getElem?_append_right (by simp; omega), List.getElem?_drop]
      simp only [List.length_append]
      rw [show j + (j - (K.length + M.length)) = j by omega, List.getElem?_eq_getElem h1]
    have hgd := tm_at hgj
    have k0 : (0:Int) ≤ j := by omega
    have k1 : (j:Int) < L.length := by omega
    have hw := incq h1 lV
    have cg := hg L[j]
    have hkn := kept_snoc p h1
    have hdj := List.drop_eq_getElem_cons h1
    replace hkn : id (kept p (L.take (j + 1)) = if p L[j] then kept p (L.take j) else kept p (L.take j) ++ [L[j]]) := hkn
    replace hdj : id (L.drop j = L[j] :: L.drop (j + 1)) := hdj
    clear hgj d_
    generalize L[j] = a at *
    obtain ⟨a0, a1⟩ := a
    refine AW.skip ?_
    repeat refine AW.seq ?_
    refine AW.block ?_
    repeat refine AW.seq ?_
    refine AW.reg ?_
    iterate 6 refine AOL.s1 (h := ?_)
    refine AOL.nil ?_
    refine AW.kq [0, 1, 5, 6, 7] (h := ?_)
    repeat refine AW.seq ?_
    refine AW.reg ?_
    iterate 2 refine AOL.s1 (h := ?_)
    refine AOL.callD rfl cg hcl rfl rfl (h := ?_)
    iterate 1 refine AOL.s1 (h := ?_)
    refine AOL.nil ?_
    refine AW.kq [0, 1, 5, 6, 7, 29] (h := ?_)
    repeat refine AW.seq ?_
    refine AW.cond rfl (fun e_ => ?_) (fun e_ => ?_)
    · have hp : p ⟨a0, a1⟩ = false := by simpa using e_
      replace hkn : id (kept p (L.take (j + 1)) = K ++ [⟨a0, a1⟩]) := by
        show _ = _
        rw [show _ = _ from hkn, hp, show _ = _ from hK]; rfl
      obtain ⟨m, M, rfl⟩ : ∃ m M', M = m :: M' := by
        cases M with
        | nil => simp at hM
        | cons m M' => exact ⟨m, M', rfl⟩
      simp only [List.length_cons] at hKM
      have spl : id ((fm tm (K ++ (m :: M) ++ L.drop j)).take (K.length * 2) ++ [i a0, u a1] ++ (fm tm (K ++ (m :: M) ++ L.drop j)).drop (K.length * 2 + 2) = fm tm (K ++ [⟨a0, a1⟩] ++ M ++ L.drop j)) := spl_tm K M _ m ⟨a0, a1⟩
      have lc : (fm tm (K ++ (m :: M) ++ L.drop j)).length = L.length * 2 := by
        rw [fm_len tm_len]; simp only [List.length_append, List.length_cons, List.length_drop]; congr 1; omega
      have kk1 : (K.length:Int) < L.length := by omega
      have kk0 : (0:Int) ≤ K.length := by omega
      have b2 : K.length * 2 + 2 ≤ L.length * 2 := by omega
      have hwk := incq (show K.length < L.length by omega) lV
      clear hgd cg e_ hp hK hM
      repeat refine AW.seq ?_
      refine AW.reg ?_
      iterate 5 refine AOL.s1 (h := ?_)
      refine AOL.nil ?_
      refine AW.kq [0, 1, 5, 6] (h := ?_)
      repeat refine AW.seq ?_
      refine AW.reg ?_
      iterate 3 refine AOL.s1 (h := ?_)
      refine AOL.nil ?_
      repeat refine AW.seq ?_
      refine AW.let 1112 (h := ?_)
      refine AW.reg ?_
      iterate 3 refine AOL.s1 (h := ?_)
      refine AOL.nil ?_
      refine ⟨L.length - (j + 1), by omega, j + 1, K ++ [⟨a0, a1⟩], M ++ [⟨a0, a1⟩], ?_, h1, rfl, by simp only [List.length_append, List.length_singleton]; omega, by show _ = _; exact (show _ = _ from hkn).symm, by simp⟩
      have e1 : K ++ [(⟨a0, a1⟩ : Tm)] ++ (M ++ [⟨a0, a1⟩]) ++ L.drop (j + 1) = K ++ [⟨a0, a1⟩] ++ M ++ L.drop j := by rw [show _ = _ from hdj]; simp only [List.append_assoc, List.cons_append, List.nil_append]
      have e2 : (K ++ [(⟨a0, a1⟩ : Tm)]).length = K.length + 1 := by simp
      rw [e1, e2, ← show _ = _ from spl]; rfl
    · have hp : p ⟨a0, a1⟩ = true := by simpa using e_
      replace hkn : id (kept p (L.take (j + 1)) = K) := by
        show _ = _
        rw [show _ = _ from hkn, hp, show _ = _ from hK]; rfl
      clear hgd cg e_ hp hK
      refine AW.skip ?_
      repeat refine AW.seq ?_
      refine AW.let 1112 (h := ?_)
      refine AW.reg ?_
      iterate 3 refine AOL.s1 (h := ?_)
      refine AOL.nil ?_
      refine ⟨L.length - (j + 1), by omega, j + 1, K, M ++ [⟨a0, a1⟩], ?_, h1, rfl, by simp only [List.length_append, List.length_singleton]; omega, by show _ = _; exact (show _ = _ from hkn).symm, by simp⟩
      have e1 : K ++ (M ++ [⟨a0, a1⟩]) ++ L.drop (j + 1) = K ++ M ++ L.drop j := by rw [show _ = _ from hdj]; simp only [List.append_assoc, List.cons_append, List.nil_append]
      rw [e1]; rfl
  · have hj : j = L.length := by have : ¬ (j:Int) < L.length := by simpa using d_
                                 omega
    subst hj
    rw [List.take_of_length_le (Nat.le_refl _)] at hK
    have kl : K.length ≤ L.length := by omega
    have lc : (fm tm (K ++ M ++ L.drop L.length)).length = L.length * 2 := by
      rw [fm_len tm_len]; simp only [List.length_append, List.length_drop]; congr 1; omega
    have s1 : ∀ H, aSlice Tryd.prog 28 H (.ref 0 0 L.length 2) (some (i K.length)) none none = some (.ref 0 (K.length * 2) (L.length - K.length) 2) := fun H => by
      have c1 : (0:Int) ≤ K.length := by omega
      have c2 : (K.length:Int) ≤ L.length := by omega
      simp only [aSlice, tf, bnd, intOf?, c1, c2, and_self, true_and, if_true, Int.le_refl, Int.toNat_natCast, Nat.zero_add]
    have s2 : ∀ H, aSlice Tryd.prog 28 H (.ref 0 0 L.length 2) none (some (i K.length)) none = some (.ref 0 0 K.length 2) := fun H => by
      have c1 : (0:Int) ≤ K.length := by omega
      have c2 : (K.length:Int) ≤ L.length := by omega
      simp only [aSlice, tf, bnd, intOf?, c1, c2, and_self, true_and, if_true, Int.le_refl, Int.toNat_natCast, Int.toNat_zero, Nat.zero_mul, Nat.zero_add, Nat.sub_zero]
    have hT : List.take (K.length * 2) ((fm tm (K ++ M ++ L.drop L.length)).take (K.length * 2) ++ (zRow [.int .i64 0, .int .u64 0] (L.length - K.length)).map AV.val ++ (fm tm (K ++ M ++ L.drop L.length)).drop (K.length * 2 + (L.length - K.length) * 2)) = fm tm K := by
      have hk := fm_len tm_len K
      have : (fm tm (K ++ M ++ L.drop L.length)).take (K.length * 2) = fm tm K := by
        rw [List.append_assoc, fm_app, List.take_append_of_le_length (by omega), List.take_of_length_le (by omega)]
      rw [this]
      simp only [List.append_assoc]
      rw [List.take_append_of_le_length (by omega), List.take_of_length_le (by omega)]
    clear d_
    repeat refine AW.seq ?_
    refine AW.exit ?_
    repeat (first | refine Kseq.ex ?_ | refine Kloop.ex ?_ | refine Kblock.miss (by decide) ?_)
    refine Kblock.hit ?_
    refine AW.kq [0, 5] (h := ?_)
    repeat refine AW.seq ?_
    refine AW.reg ?_
    iterate 3 refine AOL.s1 (h := ?_)
    refine AOL.clr (zs := [.int .i64 0, .int .u64 0]) (e := 41) rfl (by kernel_rfl) (by kernel_rfl) rfl (by intro v hv; simp at hv; rcases hv with rfl | rfl <;> rfl) rfl (by rw [lc]; omega) rfl (h := ?_)
    refine AOL.nil ?_
    refine AW.kq [0, 5] (h := ?_)
    repeat refine AW.seq ?_
    refine AW.reg ?_
    iterate 4 refine AOL.s1 (h := ?_)
    refine AOL.nil ?_
    refine AW.kq [4] (h := ?_)
    refine AW.tr 0 (K.length * 2) (h := ?_)
    rw [hT]
    refine AW.mv 0 1001 (h := ?_)
    repeat refine AW.seq ?_
    rw [← show K = kept p L from hK]
    refine AW.ret ?_
    refine ⟨_, [(1001, _)], rfl, (fun p_ hp_ => by simp only [List.mem_singleton] at hp_; subst hp_; first | exact List.mem_cons_self | exact List.mem_cons_of_mem _ List.mem_cons_self | exact List.mem_cons_of_mem _ (List.mem_cons_of_mem _ List.mem_cons_self)), ?_⟩
    refine Tells.one 1001 (by decide) ?_
    first | rfl | exact frees_fm (fun _ => rfl) _ | exact a64_free _ | exact by8_free _
end Go.Proofs.YtjeafkodcmbabaaDoor.E.M

