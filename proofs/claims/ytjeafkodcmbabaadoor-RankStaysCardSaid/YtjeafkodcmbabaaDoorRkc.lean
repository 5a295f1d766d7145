/- The document's sum of terms: a contract over E. -/
import Derived.Test.YtjeafkodcmbabaaDoorRkp
import Derived.Test.YtjeafkodcmbabaaDoorRkv
import Derived.Test.YtjeafkodcmbabaaDoorRka
import Derived.Test.YtjeafkodcmbabaaDoorProg
import Derived.KernelRfl
set_option linter.unusedVariables false
set_option linter.unusedSimpArgs false
set_option maxRecDepth 10000
open Go Go.Proofs.YtjeafkodcmbabaaDoor.E Go.Proofs
namespace Go.Proofs.YtjeafkodcmbabaaDoor.E.M
theorem hidk {p : Prop} (h : p) : id p := h
theorem fmt_snoc (V : List Tm) (x : Tm) : fm tm (V ++ [x]) = fm tm V ++ tm x := by rw [fm_app]; simp only [fm, List.append_nil]
set_option maxHeartbeats 8000000 in
theorem obolref11_Sum_c {L : List Tm} (hL : L.length < 1000000) (hT : wT L) : Fn Tryd.prog 13 [slF tm L] [] (fun r h_ => r = slF tm (sumT L)) := by
  refine Fn.enter Tryd.func13 Tryd.ntmps13 rfl (h := ?_)
  have tf := tfr
  have ot_ : (false || true) = true := rfl
  repeat refine AW.seq ?_
  refine AW.reg ?_
  iterate 1 refine AOL.s1 (h := ?_)
  refine AOL.nil ?_
  refine AW.kq [0] (h := ?_)
  repeat refine AW.seq ?_
  refine AW.reg ?_
  iterate 1 refine AOL.s1 (h := ?_)
  refine AOL.nil ?_
  refine AW.kq [0, 3] (h := ?_)
  repeat refine AW.seq ?_
  refine AW.reg ?_
  iterate 1 refine AOL.s1 (h := ?_)
  refine AOL.nil ?_
  refine AW.kq [0, 3, 4] (h := ?_)
  repeat refine AW.seq ?_
  refine AW.block ?_
  repeat refine AW.seq ?_
  refine AW.born 3 1001 41 2 (.inl rfl) (h := ?_)
  refine AW.loopK [0, 3, 4] (fun n s => ∃ (last : Int) (out : List Tm), s = ⟨72, [(0, slF tm L), (3, .ref 1001 0 out.length 2), (4, i last)], [(1001, ⟨41, false, fm tm out⟩)]⟩ ∧ SumI L last out ∧ n = cntF last L) (cntF (-1) L) ?_ ?_
  · exact ⟨-1, [], rfl, SumI.start L, rfl⟩
  rintro n s ⟨last, out, rfl, hI, rfl⟩
  repeat refine AW.seq ?_
  refine AW.block ?_
  repeat refine AW.seq ?_
  refine AW.reg ?_
  iterate 1 refine AOL.s1 (h := ?_)
  refine AOL.nil ?_
  refine AW.kq [0, 3, 4, 5] (h := ?_)
  repeat refine AW.seq ?_
  refine AW.reg ?_
  iterate 1 refine AOL.s1 (h := ?_)
  refine AOL.nil ?_
  refine AW.kq [0, 3, 4, 5, 6] (h := ?_)
  repeat refine AW.seq ?_
  refine AW.block ?_
  repeat refine AW.seq ?_
  refine AW.loopK [0, 3, 4, 5, 6] (fun n s => ∃ (k : Nat) (nx : Int) (r : List Tm), s = ⟨72, [(0, slF tm L), (3, .ref 1001 0 out.length 2), (4, i last), (5, i nx), (6, i k)], [(1001, ⟨41, false, fm tm out⟩)]⟩ ∧ L.drop k = r ∧ k ≤ L.length ∧ n = r.length ∧ id (nxF last nx r = nxF last (-1) L)) L.length ?_ ?_
  · exact ⟨0, -1, L, rfl, rfl, Nat.zero_le _, rfl, rfl⟩
  rintro n s ⟨k, nx, r, rfl, hr, hkl, rfl, hi⟩
  repeat refine AW.seq ?_
  refine AW.reg ?_
  iterate 4 refine AOL.s1 (h := ?_)
  refine AOL.nil ?_
  refine AW.kq [0, 3, 4, 5, 6, 12] (h := ?_)
  repeat refine AW.seq ?_
  refine AW.cond rfl (fun c_ => ?_) (fun c_ => ?_)
  · cases r with
    | nil => have := dnilq hr hkl; simp at c_; omega
    | cons t r =>
    obtain ⟨hlt, hr', ht⟩ := dconsq hr
    have hd : (fm tm L).drop (k * 2) = i t.v :: u t.k :: fm tm r := fm_drop tm_len hr
    have k0 : (0:Int) ≤ k := by omega
    have k1 : (k:Int) < L.length := by omega
    have hw := incq hlt (show L.length < 1000000000 by omega)
    have go : id (nxF last (if t.v > last ∧ (nx < 0 ∨ t.v < nx) then t.v else nx) r = nxF last (-1) L) := hi
    clear hr hi c_
    refine AW.skip ?_
    repeat refine AW.seq ?_
    refine AW.block ?_
    repeat refine AW.seq ?_
    refine AW.midK [0, 3, 4, 5, 6, 34] (fun s => s = ⟨72, [(0, slF tm L), (3, .ref 1001 0 out.length 2), (4, i last), (5, i nx), (6, i k), (34, bo (decide (t.v > last ∧ (nx < 0 ∨ t.v < nx))))], [(1001, ⟨41, false, fm tm out⟩)]⟩) ?_ ?_
    · by_cases b1 : t.v > last
      · by_cases b2 : nx < 0
        · rw [show decide (t.v > last ∧ (nx < 0 ∨ t.v < nx)) = true from decide_eq_true ⟨b1, .inl b2⟩]
          clear go
          refine AW.reg ?_
          iterate 20 refine AOL.s1 (h := ?_)
          refine AOL.nil ?_
          exact rfl
        · rw [show decide (t.v > last ∧ (nx < 0 ∨ t.v < nx)) = decide (t.v < nx) from by simp [b1, b2]]
          clear go
          refine AW.reg ?_
          iterate 20 refine AOL.s1 (h := ?_)
          refine AOL.nil ?_
          exact rfl
      · rw [show decide (t.v > last ∧ (nx < 0 ∨ t.v < nx)) = false from decide_eq_false fun h => b1 h.1]
        clear go
        refine AW.reg ?_
        iterate 20 refine AOL.s1 (h := ?_)
        refine AOL.nil ?_
        exact rfl
    rintro t_ rfl
    repeat refine AW.seq ?_
    refine AW.cond rfl (fun d_ => ?_) (fun d_ => ?_)
    · have c1 : t.v > last ∧ (nx < 0 ∨ t.v < nx) := by simpa using d_
      rw [if_pos c1] at go
      clear c1 d_
      repeat refine AW.seq ?_
      refine AW.reg ?_
      iterate 6 refine AOL.s1 (h := ?_)
      refine AOL.nil ?_
      repeat refine AW.seq ?_
      refine AW.reg ?_
      iterate 3 refine AOL.s1 (h := ?_)
      refine AOL.nil ?_
      exact ⟨r.length, by simp, k + 1, t.v, r, rfl, hr', hlt, rfl, go⟩
    · have c1 : ¬ (t.v > last ∧ (nx < 0 ∨ t.v < nx)) := by simpa using d_
      rw [if_neg c1] at go
      clear c1 d_
      refine AW.skip ?_
      repeat refine AW.seq ?_
      refine AW.reg ?_
      iterate 3 refine AOL.s1 (h := ?_)
      refine AOL.nil ?_
      exact ⟨r.length, by simp, k + 1, nx, r, rfl, hr', hlt, rfl, go⟩
  · have : r = [] := by
      apply List.eq_nil_of_length_eq_zero; rw [← hr, List.length_drop]; simp at c_; omega
    subst this
    have hn : nxF last (-1) L = nx := Eq.symm hi
    clear hi hr c_
    repeat refine AW.seq ?_
    refine AW.exit ?_
    repeat (first | refine Kseq.ex ?_ | refine Kloop.ex ?_ | refine Kblock.miss (by decide) ?_)
    refine Kblock.hit ?_
    refine AW.kq [0, 3, 5] (h := ?_)
    repeat refine AW.seq ?_
    refine AW.reg ?_
    iterate 2 refine AOL.s1 (h := ?_)
    refine AOL.nil ?_
    refine AW.kq [0, 3, 5, 41] (h := ?_)
    repeat refine AW.seq ?_
    refine AW.cond rfl (fun c_ => ?_) (fun c_ => ?_)
    · have n0 : nx < 0 := by simpa using c_
      have ho : out = sumT L := hI.stop (by rw [hn]; exact n0)
      clear c_
      refine AW.fz 1001 rfl (fun h => by cases h) (h := ?_)
      rw [show AV.sl out.length (sub 0 (out.length * 2) (fm tm out)) = slF tm out by rw [sub_all (by rw [fm_len tm_len]; exact Nat.le_refl _)]]
      repeat refine AW.seq ?_
      refine AW.reg ?_
      iterate 2 refine AOL.s1 (h := ?_)
      refine AOL.nil ?_
      refine AW.kq [2] (h := ?_)
      repeat refine AW.seq ?_
      refine AW.ret ?_
      refine ⟨_, [], rfl, HOk.nil _, ?_⟩
      subst ho; rfl
    have n0 : ¬ nx < 0 := by simpa using c_
    obtain ⟨hc, h0, h1⟩ := hI.step hn n0
    replace h0 := hidk h0
    replace h1 := hidk h1
    replace hc := hidk hc
    have lo := hI.len
    clear c_ hn n0 hI
    refine AW.skip ?_
    repeat refine AW.seq ?_
    refine AW.reg ?_
    iterate 1 refine AOL.s1 (h := ?_)
    refine AOL.nil ?_
    refine AW.kq [0, 3, 5, 7] (h := ?_)
    repeat refine AW.seq ?_
    refine AW.reg ?_
    iterate 1 refine AOL.s1 (h := ?_)
    refine AOL.nil ?_
    refine AW.kq [0, 3, 5, 7, 8] (h := ?_)
    repeat refine AW.seq ?_
    refine AW.block ?_
    repeat refine AW.seq ?_
    refine AW.loopK [0, 3, 5, 7, 8] (fun n s => ∃ (k : Nat) (a : Int) (r : List Tm), s = ⟨72, [(0, slF tm L), (3, .ref 1001 0 out.length 2), (5, i nx), (7, u a), (8, i k)], [(1001, ⟨41, false, fm tm out⟩)]⟩ ∧ L.drop k = r ∧ k ≤ L.length ∧ n = r.length ∧ w64 a ∧ id (smF nx a r = smF nx 0 L)) L.length ?_ ?_
    · exact ⟨0, 0, L, rfl, rfl, Nat.zero_le _, rfl, by decide, rfl⟩
    rintro n s ⟨k, a, r, rfl, hr, hkl, rfl, wa, hi⟩
    repeat refine AW.seq ?_
    refine AW.reg ?_
    iterate 4 refine AOL.s1 (h := ?_)
    refine AOL.nil ?_
    refine AW.kq [0, 3, 5, 7, 8, 46] (h := ?_)
    repeat refine AW.seq ?_
    refine AW.cond rfl (fun c_ => ?_) (fun c_ => ?_)
    · cases r with
      | nil => have := dnilq hr hkl; simp at c_; omega
      | cons t r =>
      obtain ⟨hlt, hr', ht⟩ := dconsq hr
      have hd : (fm tm L).drop (k * 2) = i t.v :: u t.k :: fm tm r := fm_drop tm_len hr
      have hd1 : (fm tm L).drop (k * 2 + 1) = u t.k :: fm tm r := by rw [← List.drop_drop, hd]; rfl
      have k0 : (0:Int) ≤ k := by omega
      have k1 : (k:Int) < L.length := by omega
      have hw := incq hlt (show L.length < 1000000000 by omega)
      have wt : w64 t.k := hT t (List.mem_of_getElem? ht)
      have cP := obolref07_Plus_c wa wt
      have go : id (smF nx (if t.v = nx then (a + t.k) % 288230376287764481 else a) r = smF nx 0 L) := hi
      clear hr hi c_
      refine AW.skip ?_
      repeat refine AW.seq ?_
      refine AW.block ?_
      repeat refine AW.seq ?_
      refine AW.reg ?_
      iterate 7 refine AOL.s1 (h := ?_)
      refine AOL.nil ?_
      refine AW.kq [0, 3, 5, 7, 8, 55] (h := ?_)
      repeat refine AW.seq ?_
      refine AW.cond rfl (fun d_ => ?_) (fun d_ => ?_)
      · have c1 : t.v = nx := by simpa using d_
        rw [if_pos c1] at go
        replace c1 := hidk c1
        clear d_
        repeat refine AW.seq ?_
        refine AW.reg ?_
        iterate 6 refine AOL.s1 (h := ?_)
        refine AOL.callD rfl (cP) (by kernel_rfl) rfl rfl (h := ?_)
        iterate 1 refine AOL.s1 (h := ?_)
        refine AOL.nil ?_
        repeat refine AW.seq ?_
        refine AW.reg ?_
        iterate 3 refine AOL.s1 (h := ?_)
        refine AOL.nil ?_
        exact ⟨r.length, by simp, k + 1, _, r, rfl, hr', hlt, rfl, w64_r _, go⟩
      · have c1 : ¬ t.v = nx := by simpa using d_
        rw [if_neg c1] at go
        clear c1 d_
        refine AW.skip ?_
        repeat refine AW.seq ?_
        refine AW.reg ?_
        iterate 3 refine AOL.s1 (h := ?_)
        refine AOL.nil ?_
        exact ⟨r.length, by simp, k + 1, a, r, rfl, hr', hlt, rfl, wa, go⟩
    · have : r = [] := by
        apply List.eq_nil_of_length_eq_zero; rw [← hr, List.length_drop]; simp at c_; omega
      subst this
      have ha : a = smF nx 0 L := hi
      rw [← ha] at h0 h1
      clear hi hr c_ ha
      repeat refine AW.seq ?_
      refine AW.exit ?_
      repeat (first | refine Kseq.ex ?_ | refine Kloop.ex ?_ | refine Kblock.miss (by decide) ?_)
      refine Kblock.hit ?_
      refine AW.kq [0, 3, 5, 7] (h := ?_)
      repeat refine AW.seq ?_
      refine AW.reg ?_
      iterate 2 refine AOL.s1 (h := ?_)
      refine AOL.nil ?_
      refine AW.kq [0, 3, 5, 7, 64] (h := ?_)
      repeat refine AW.seq ?_
      refine AW.midK [0, 3, 5] (fun t => ∃ (out' : List Tm), t = ⟨72, [(0, slF tm L), (3, .ref 1001 0 out'.length 2), (5, i nx)], [(1001, ⟨41, false, fm tm out'⟩)]⟩ ∧ SumI L nx out') ?_ ?_
      · refine AW.cond rfl (fun e_ => ?_) (fun e_ => ?_)
        · have c1 : a ≠ 0 := by simpa using e_
          have lc : (fm tm out).length = out.length * 2 := fm_len tm_len out
          have a1 : (out.length + 1) * 16 ≤ 140737488355328 := by omega
          have a2 : out.length + 1 ≤ 4611686018427387904 := by omega
          have a3 : out.length ≤ 4611686018427387903 := by omega
          clear e_
          repeat refine AW.seq ?_
          refine AW.reg ?_
          iterate 7 refine AOL.s1 (h := ?_)
          refine AOL.let 2104 (h := ?_)
          refine AOL.nil ?_
          refine ⟨out ++ [⟨nx, a⟩], ?_, h1 c1⟩
          rw [fmt_snoc, List.length_append]; rfl
        · have c1 : a = 0 := by simpa using e_
          refine AW.skip ?_
          exact ⟨out, rfl, h0 c1⟩
      rintro t_ ⟨out', rfl, hI'⟩
      repeat refine AW.seq ?_
      refine AW.reg ?_
      iterate 2 refine AOL.s1 (h := ?_)
      refine AOL.nil ?_
      exact ⟨cntF nx L, hc, nx, out', rfl, hI', rfl⟩
end Go.Proofs.YtjeafkodcmbabaaDoor.E.M

