/- Whether a system is sound, and its size, at whatever lengths: contracts over E. -/
import Derived.Test.YtgcgkpeffjbneaaRankB
import Derived.Test.YtgcgkpeffjbneaaProg
import Derived.KernelRfl
set_option linter.unusedVariables false
set_option linter.unusedSimpArgs false
set_option maxRecDepth 10000
open Go Go.Proofs.Ytgcgkpeffjbneaa.E Go.Proofs
namespace Go.Proofs.Ytgcgkpeffjbneaa.E.M
theorem incB {k : Nat} {n : Nat} (h : k < n) (hn : n < 9223372036854775808) : IntKind.i64.wrap ((k:Int) + 1) = ((k + 1 : Nat) : Int) := by
  rw [wrapI_o (by omega) (by omega)]; rfl
abbrev LenB (s : Rk) : Prop := s.l.length < 9223372036854775808 ∧ ∀ r ∈ s.l, r.a.length < 9223372036854775808 ∧ r.b.length < 9223372036854775808 ∧ r.c.length < 9223372036854775808
set_option maxHeartbeats 4000000 in
theorem rank_sound_b {L : List Tm} {vars : Int} (hL : L.length < 9223372036854775808) : Fn Try.prog 32 [slF tm L, i vars] [] (fun r _ => r = bo (sndF vars (-1) L)) := by
  refine Fn.enter Try.func32 Try.ntmps32 rfl (h := ?_)
  have tf := tf
  repeat refine AW.seq ?_
  refine AW.reg ?_
  iterate 1 refine AOL.s1 (h := ?_)
  refine AOL.nil ?_
  refine AW.kq [0, 1] (h := ?_)
  repeat refine AW.seq ?_
  refine AW.reg ?_
  iterate 3 refine AOL.s1 (h := ?_)
  refine AOL.nil ?_
  refine AW.kq [0, 1, 7, 8, 9] (h := ?_)
  repeat refine AW.seq ?_
  refine AW.block ?_
  repeat refine AW.seq ?_
  refine AW.loopK [0, 1, 7, 8, 9] (fun n s => ∃ (k : Nat) (last : Int) (r : List Tm), s = ⟨49, [(0, slF tm L), (1, i vars), (7, slF tm L), (8, i L.length), (9, i k)], []⟩ ∧ L.drop k = r ∧ k ≤ L.length ∧ n = r.length ∧ prevOk L k last ∧ sndF vars last r = sndF vars (-1) L) L.length ?_ ?_
  · exact ⟨0, -1, L, rfl, rfl, Nat.zero_le _, rfl, .inl ⟨rfl, rfl⟩, rfl⟩
  rintro n s ⟨k, last, r, rfl, hr, hkl, rfl, hp, hi⟩
  repeat refine AW.seq ?_
  refine AW.reg ?_
  iterate 1 refine AOL.s1 (h := ?_)
  refine AOL.nil ?_
  refine AW.kq [0, 1, 7, 8, 9, 10] (h := ?_)
  repeat refine AW.seq ?_
  refine AW.cond rfl (fun c_ => ?_) (fun c_ => ?_)
  · cases r with
    | nil => have := dnil hr hkl; simp at c_; omega
    | cons t r =>
    obtain ⟨hlt, hr', ht⟩ := dcons hr
    have hd : (fm tm L).drop (k * 2) = i t.v :: u t.k :: fm tm r := fm_drop tm_len hr
    have k0 : (0:Int) ≤ k := by omega
    have k1 : (k:Int) < L.length := by omega
    have hw := incB hlt hL
    have go : sndF vars last (t :: r) = sndF vars (-1) L := hi
    clear hr hi
    refine AW.skip ?_
    repeat refine AW.seq ?_
    refine AW.block ?_
    repeat refine AW.seq ?_
    refine AW.reg ?_
    iterate 6 refine AOL.s1 (h := ?_)
    refine AOL.nil ?_
    refine AW.kq [0, 1, 5, 6, 7, 8, 9] (h := ?_)
    repeat refine AW.seq ?_
    have bad : (t.v < 0 ∨ t.v ≥ vars ∨ t.k < 1 ∨ t.k ≥ 288230376287764481) → sndF vars (-1) L = false := by
      intro h
      rw [← go]
      simp only [sndF]
      rw [if_pos]
      rcases h with h | h
      · left
        rcases hp with ⟨_, rfl⟩ | ⟨_, _, _, _, _, h0⟩ <;> omega
      · exact .inr h
    have fine : ∀ b : Bool, ¬ t.v < 0 → ¬ t.v ≥ vars → ¬ t.k < 1 → ¬ t.k ≥ 288230376287764481 → b = decide (t.v ≤ last) → (b = true → sndF vars (-1) L = false) ∧ (b = false → sndF vars t.v r = sndF vars (-1) L) := by
      intro b a1 a2 a3 a4 hb
      constructor
      · intro h; rw [← go]; simp only [sndF]; rw [if_pos]; left; rw [hb] at h; simpa using h
      · intro h; rw [← go]; simp only [sndF]; rw [if_neg]
        rw [hb] at h
        simp at h
        omega
    have next : ¬ t.v < 0 → prevOk L (k + 1) t.v := fun h => .inr ⟨k, t, rfl, ht, rfl, by omega⟩
    clear go
    have hcs : (t.v < 0 ∨ (¬ t.v < 0 ∧ t.v ≥ vars) ∨ (¬ t.v < 0 ∧ ¬ t.v ≥ vars ∧ t.k < 1) ∨ (¬ t.v < 0 ∧ ¬ t.v ≥ vars ∧ ¬ t.k < 1 ∧ t.k ≥ 288230376287764481)) ∨ (¬ t.v < 0 ∧ ¬ t.v ≥ vars ∧ ¬ t.k < 1 ∧ ¬ t.k ≥ 288230376287764481) := by omega
    rcases hcs with hcs | ⟨a1, a2, a3, a4⟩
    · have hbad : sndF vars (-1) L = false := bad (by omega)
      clear bad fine next hp hd
      rcases hcs with a1 | ⟨a1, a2⟩ | ⟨a1, a2, a3⟩ | ⟨a1, a2, a3, a4⟩
      iterate 4
        · refine AW.drw 31 [] (by kernel_rfl) (h := ?_)
          iterate 31 refine ADL.dm 1 (h := ?_)
          refine ADL.done hmix rfl rfl (hT := ?_)
          iterate 3 refine AOL.s1 (h := ?_)
          refine AOL.nil ?_
          refine AW.kq [0, 1, 7, 8, 9, 47] (h := ?_)
          repeat refine AW.seq ?_
          refine AW.cond rfl (fun d_ => ?_) (fun d_ => ?_)
          · repeat refine AW.seq ?_
            refine AW.reg ?_
            iterate 1 refine AOL.s1 (h := ?_)
            refine AOL.nil ?_
            refine AW.kq [4] (h := ?_)
            repeat refine AW.seq ?_
            refine AW.ret ?_
            refine ⟨_, [], rfl, HOk.nil _, ?_⟩
            simp only [one?, hbad]
          · cases d_
    clear bad
    rcases hp with ⟨rfl, rfl⟩ | ⟨j, q, rfl, hq, rfl, q0⟩
    · obtain ⟨f1, f2⟩ := fine false a1 a2 a3 a4 (by simp; omega)
      have n1 := next a1
      clear fine next hd
      refine AW.drw 31 [] (by kernel_rfl) (h := ?_)
      iterate 31 refine ADL.dm 1 (h := ?_)
      refine ADL.done hmix rfl rfl (hT := ?_)
      iterate 3 refine AOL.s1 (h := ?_)
      refine AOL.nil ?_
      refine AW.kq [0, 1, 7, 8, 9, 47] (h := ?_)
      repeat refine AW.seq ?_
      refine AW.cond rfl (fun d_ => ?_) (fun d_ => ?_)
      · cases d_
      refine AW.skip ?_
      repeat refine AW.seq ?_
      refine AW.let 1096 (h := ?_)
      refine AW.reg ?_
      iterate 2 refine AOL.s1 (h := ?_)
      refine AOL.nil ?_
      exact ⟨r.length, by simp, _, _, r, rfl, hr', hlt, rfl, n1, f2 rfl⟩
    obtain ⟨f1, f2⟩ := fine (decide (t.v ≤ q.v)) a1 a2 a3 a4 rfl
    have n1 := next a1
    have hj : j < L.length := by omega
    have hq2 : (fm tm L).drop (j * 2) = i q.v :: u q.k :: fm tm (L.drop (j + 1)) := fm_drop tm_len (by rw [List.drop_eq_getElem_cons hj]; congr 1; rw [List.getElem?_eq_getElem hj] at hq; exact Option.some.inj hq)
    have j0 : ((j + 1 : Nat) : Int) > 0 := by omega
    have jw : IntKind.i64.wrap (((j + 1 : Nat) : Int) - 1) = (j : Int) := by rw [wrapI_o (by omega) (by omega)]; omega
    have j1 : (0:Int) ≤ j := by omega
    have j2 : (j:Int) < L.length := by omega
    clear fine next hd hq q0
    refine AW.drw 31 [] (by kernel_rfl) (h := ?_)
    iterate 31 refine ADL.dm 1 (h := ?_)
    refine ADL.done hmix rfl rfl (hT := ?_)
    iterate 3 refine AOL.s1 (h := ?_)
    refine AOL.nil ?_
    refine AW.kq [0, 1, 7, 8, 9, 47] (h := ?_)
    repeat refine AW.seq ?_
    refine AW.cond rfl (fun d_ => ?_) (fun d_ => ?_)
    · have hbad := f1 d_
      repeat refine AW.seq ?_
      refine AW.reg ?_
      iterate 1 refine AOL.s1 (h := ?_)
      refine AOL.nil ?_
      refine AW.kq [4] (h := ?_)
      repeat refine AW.seq ?_
      refine AW.ret ?_
      refine ⟨_, [], rfl, HOk.nil _, ?_⟩
      simp only [one?, hbad]
    refine AW.skip ?_
    repeat refine AW.seq ?_
    refine AW.let 1096 (h := ?_)
    refine AW.reg ?_
    iterate 2 refine AOL.s1 (h := ?_)
    refine AOL.nil ?_
    exact ⟨r.length, by simp, _, _, r, rfl, hr', hlt, rfl, n1, f2 d_⟩
  have : r = [] := by
    cases r with
    | nil => rfl
    | cons t r => have := (dcons hr).1; simp at c_; omega
  subst this
  have hg : sndF vars (-1) L = true := hi.symm
  clear hi hp hr
  repeat refine AW.seq ?_
  refine AW.exit ?_
  repeat (first | refine Kseq.ex ?_ | refine Kloop.ex ?_ | refine Kblock.miss (by decide) ?_)
  refine Kblock.hit ?_
  refine AW.kq [] (h := ?_)
  repeat refine AW.seq ?_
  refine AW.reg ?_
  iterate 1 refine AOL.s1 (h := ?_)
  refine AOL.nil ?_
  refine AW.kq [4] (h := ?_)
  repeat refine AW.seq ?_
  refine AW.ret ?_
  refine ⟨_, [], rfl, HOk.nil _, ?_⟩
  simp only [one?, hg]
set_option maxHeartbeats 1000000 in
theorem rank_Check_b {s : Rk} (hS : LenB s) : Fn Try.prog 17 [.agg (rk s)] [] (fun r _ => r = erF (chkF s) 3) := by
  refine Fn.enter Try.func17 Try.ntmps17 rfl (h := ?_)
  have tf := tf
  repeat refine AW.seq ?_
  refine AW.reg ?_
  iterate 2 refine AOL.s1 (h := ?_)
  refine AOL.nil ?_
  refine AW.kq [1] (h := ?_)
  repeat refine AW.seq ?_
  refine AW.reg ?_
  iterate 4 refine AOL.s1 (h := ?_)
  refine AOL.kq [1, 8] (h := ?_)
  refine AOL.or 8 12 (os' := ?_) (x := ?_) (h1 := ?_) (h0 := ?_) (h := ?_)
  rotate_left 2
  iterate 2
    · intro hb_ K' hK; (iterate 4 refine AOL.s1 (h := ?_)); refine AOL.kq [1, 12] (h := ?_); exact hK
  iterate 1 refine AOL.s1 (h := ?_)
  refine AOL.kq [1, 13] (h := ?_)
  refine AOL.or 13 17 (os' := ?_) (x := ?_) (h1 := ?_) (h0 := ?_) (h := ?_)
  rotate_left 2
  iterate 2
    · intro hb_ K' hK; (iterate 4 refine AOL.s1 (h := ?_)); refine AOL.kq [1, 17] (h := ?_); exact hK
  iterate 1 refine AOL.s1 (h := ?_)
  refine AOL.kq [1, 18] (h := ?_)
  refine AOL.or 18 24 (os' := ?_) (x := ?_) (h1 := ?_) (h0 := ?_) (h := ?_)
  rotate_left 2
  iterate 2
    · intro hb_ K' hK; (iterate 6 refine AOL.s1 (h := ?_)); refine AOL.kq [1, 24] (h := ?_); exact hK
  iterate 1 refine AOL.s1 (h := ?_)
  refine AOL.kq [1, 25] (h := ?_)
  refine AOL.or 25 30 (os' := ?_) (x := ?_) (h1 := ?_) (h0 := ?_) (h := ?_)
  rotate_left 2
  iterate 2
    · intro hb_ K' hK; (iterate 5 refine AOL.s1 (h := ?_)); refine AOL.kq [1, 30] (h := ?_); exact hK
  refine AOL.nil ?_
  refine AW.kq [1, 30] (h := ?_)
  repeat refine AW.seq ?_
  refine AW.cond rfl (fun c_ => ?_) (fun c_ => ?_)
  · have hb : chkF s = false := by unfold chkF; rw [if_pos (by exact c_)]
    repeat refine AW.seq ?_
    refine AW.reg ?_
    iterate 2 refine AOL.s1 (h := ?_)
    refine AOL.nil ?_
    refine AW.kq [2] (h := ?_)
    repeat refine AW.seq ?_
    refine AW.ret ?_
    refine ⟨_, [], rfl, HOk.nil _, ?_⟩
    simp only [one?, hb]; rfl
  have hb : chkF s = rowsF s.v s.l := by unfold chkF; rw [if_neg]; rw [show badF s = false from c_]; decide
  rw [hb]
  clear hb c_
  obtain ⟨hS1, hS2⟩ := hS
  obtain ⟨sv, sp, sl_⟩ := s
  simp only at hS1 hS2
  refine AW.skip ?_
  repeat refine AW.seq ?_
  refine AW.reg ?_
  iterate 4 refine AOL.s1 (h := ?_)
  refine AOL.nil ?_
  refine AW.kq [1, 33, 34, 35] (h := ?_)
  repeat refine AW.seq ?_
  refine AW.block ?_
  repeat refine AW.seq ?_
  refine AW.loopK [1, 33, 34, 35] (fun n s => ∃ (k : Nat) (r : List Rw), s = ⟨63, [(1, .ptr 1016 0), (33, slF rw_ sl_), (34, i sl_.length), (35, i k)], [(1016, ⟨25, true, [i sv, i sp, slF rw_ sl_]⟩)]⟩ ∧ sl_.drop k = r ∧ k ≤ sl_.length ∧ n = r.length ∧ rowsF sv r = rowsF sv sl_) sl_.length ?_ ?_
  · exact ⟨0, _, rfl, rfl, Nat.zero_le _, rfl, rfl⟩
  rintro n s ⟨k, r, rfl, hr, hkl, rfl, hi⟩
  repeat refine AW.seq ?_
  refine AW.reg ?_
  iterate 1 refine AOL.s1 (h := ?_)
  refine AOL.nil ?_
  refine AW.kq [1, 33, 34, 35, 36] (h := ?_)
  repeat refine AW.seq ?_
  refine AW.cond rfl (fun c_ => ?_) (fun c_ => ?_)
  · cases r with
    | nil => have := dnil hr hkl; simp at c_; omega
    | cons t r =>
    obtain ⟨hlt, hr', ht⟩ := dcons hr
    have hd : (fm rw_ sl_).drop (k * 3) = slF tm t.a :: slF tm t.b :: slF tm t.c :: fm rw_ r := fm_drop rw_len hr
    have k0 : (0:Int) ≤ k := by omega
    have k1 : (k:Int) < sl_.length := by omega
    have hw := incB hlt hS1
    obtain ⟨l1, l2, l3⟩ := hS2 t (List.mem_of_getElem? ht)
    have go : rowsF sv (t :: r) = rowsF sv sl_ := hi
    have go2 : (!sndF sv (-1) t.a || !sndF sv (-1) t.b || !sndF sv (-1) t.c) = true → rowsF sv sl_ = false := by
      intro h; rw [← go]; simp only [rowsF]; rw [if_neg]; simp [rowF] at h ⊢; grind
    have go3 : (!sndF sv (-1) t.a || !sndF sv (-1) t.b || !sndF sv (-1) t.c) = false → rowsF sv r = rowsF sv sl_ := by
      intro h; rw [← go]; simp only [rowsF]; rw [if_pos]; simp [rowF] at h ⊢; grind
    clear hr hi go ht hS2
    refine AW.skip ?_
    repeat refine AW.seq ?_
    refine AW.block ?_
    repeat refine AW.seq ?_
    refine AW.reg ?_
    iterate 4 refine AOL.s1 (h := ?_)
    refine AOL.nil ?_
    refine AW.kq [1, 4, 33, 34, 35] (h := ?_)
    repeat refine AW.seq ?_
    refine AW.reg ?_
    iterate 4 refine AOL.s1 (h := ?_)
    refine AOL.callD rfl (rank_sound_b l1) (by kernel_rfl) rfl rfl (h := ?_)
    iterate 2 refine AOL.s1 (h := ?_)
    refine AOL.kq [1, 4, 33, 34, 35, 45] (h := ?_)
    refine AOL.or 45 52 (os' := ?_) (x := ?_) (h1 := ?_) (h0 := ?_) (h := ?_)
    rotate_left 2
    iterate 2
      · intro hb_ K' hK; (first | (iterate 7 refine AOL.s1 (h := ?_)) | ((iterate 4 refine AOL.s1 (h := ?_)); refine AOL.callD rfl (rank_sound_b l2) (by kernel_rfl) rfl rfl (h := ?_); (iterate 2 refine AOL.s1 (h := ?_)))); refine AOL.kq [1, 4, 33, 34, 35, 52] (h := ?_); exact hK
    iterate 1 refine AOL.s1 (h := ?_)
    refine AOL.kq [1, 4, 33, 34, 35, 53] (h := ?_)
    refine AOL.or 53 60 (os' := ?_) (x := ?_) (h1 := ?_) (h0 := ?_) (h := ?_)
    rotate_left 2
    iterate 2
      · intro hb_ K' hK; (first | (iterate 7 refine AOL.s1 (h := ?_)) | ((iterate 4 refine AOL.s1 (h := ?_)); refine AOL.callD rfl (rank_sound_b l3) (by kernel_rfl) rfl rfl (h := ?_); (iterate 2 refine AOL.s1 (h := ?_)))); refine AOL.kq [1, 4, 33, 34, 35, 60] (h := ?_); exact hK
    refine AOL.nil ?_
    refine AW.kq [1, 33, 34, 35, 60] (h := ?_)
    repeat refine AW.seq ?_
    refine AW.cond rfl (fun d_ => ?_) (fun d_ => ?_)
    · have hbad := go2 d_
      repeat refine AW.seq ?_
      refine AW.reg ?_
      iterate 2 refine AOL.s1 (h := ?_)
      refine AOL.nil ?_
      refine AW.kq [2] (h := ?_)
      repeat refine AW.seq ?_
      refine AW.ret ?_
      refine ⟨_, [], rfl, HOk.nil _, ?_⟩
      simp only [one?, hbad]; rfl
    have hg := go3 d_
    clear go2 go3 d_
    refine AW.skip ?_
    repeat refine AW.seq ?_
    refine AW.let 1064 (h := ?_)
    refine AW.reg ?_
    iterate 2 refine AOL.s1 (h := ?_)
    refine AOL.nil ?_
    exact ⟨r.length, by simp, _, r, rfl, hr', hlt, rfl, hg⟩
  have : r = [] := by
    cases r with
    | nil => rfl
    | cons t r => have := (dcons hr).1; simp at c_; omega
  subst this
  have hg : rowsF sv sl_ = true := hi.symm
  clear hi hr
  repeat refine AW.seq ?_
  refine AW.exit ?_
  repeat (first | refine Kseq.ex ?_ | refine Kloop.ex ?_ | refine Kblock.miss (by decide) ?_)
  refine Kblock.hit ?_
  refine AW.kq [] (h := ?_)
  repeat refine AW.seq ?_
  refine AW.reg ?_
  iterate 1 refine AOL.s1 (h := ?_)
  refine AOL.nil ?_
  refine AW.kq [2] (h := ?_)
  repeat refine AW.seq ?_
  refine AW.ret ?_
  refine ⟨_, [], rfl, HOk.nil _, ?_⟩
  simp only [one?, hg]; rfl
theorem qap_Size_b {s : Rk} (hS : LenB s) : Fn Try.prog 7 [.agg (rk s)] [] (fun r _ => r = .tup (sizeF s)) := by
  have cC := rank_Check_b hS
  have h1 := hS.1
  refine Fn.enter Try.func7 Try.ntmps7 rfl (h := ?_)
  have tf := tf
  repeat refine AW.seq ?_
  refine AW.reg ?_
  iterate 3 refine AOL.s1 (h := ?_)
  refine AOL.nil ?_
  refine AW.kq [1] (h := ?_)
  repeat refine AW.seq ?_
  cases hc : chkF s with
  | false =>
    have cC : Fn Try.prog 17 [.agg (rk s)] [] (fun r _ => r = er 3) := by rw [hc] at cC; exact cC
    refine AW.reg ?_
    iterate 1 refine AOL.s1 (h := ?_)
    refine AOL.callD rfl (cC) (by kernel_rfl) rfl rfl (h := ?_)
    iterate 1 refine AOL.s1 (h := ?_)
    refine AOL.nil ?_
    refine AW.kq [1, 4] (h := ?_)
    repeat refine AW.seq ?_
    refine AW.reg ?_
    iterate 2 refine AOL.s1 (h := ?_)
    refine AOL.nil ?_
    refine AW.kq [1, 4, 9] (h := ?_)
    repeat refine AW.seq ?_
    refine AW.cond rfl (fun c_ => ?_) (fun c_ => ?_)
    · repeat refine AW.seq ?_
      refine AW.reg ?_
      iterate 3 refine AOL.s1 (h := ?_)
      refine AOL.nil ?_
      refine AW.kq [2, 3] (h := ?_)
      repeat refine AW.seq ?_
      refine AW.ret ?_
      refine ⟨_, [], rfl, HOk.nil _, ?_⟩
      simp only [one?, sizeF, hc]; rfl
    · cases c_
  | true =>
  have hl := chk_len hc
  have cC : Fn Try.prog 17 [.agg (rk s)] [] (fun r _ => r = nil_) := by rw [hc] at cC; exact cC
  refine AW.reg ?_
  iterate 1 refine AOL.s1 (h := ?_)
  refine AOL.callD rfl (cC) (by kernel_rfl) rfl rfl (h := ?_)
  iterate 1 refine AOL.s1 (h := ?_)
  refine AOL.nil ?_
  refine AW.kq [1, 4] (h := ?_)
  repeat refine AW.seq ?_
  refine AW.reg ?_
  iterate 2 refine AOL.s1 (h := ?_)
  refine AOL.nil ?_
  refine AW.kq [1, 4, 9] (h := ?_)
  repeat refine AW.seq ?_
  refine AW.cond rfl (fun c_ => ?_) (fun c_ => ?_)
  · cases c_
  refine AW.skip ?_
  repeat refine AW.seq ?_
  refine AW.reg ?_
  iterate 1 refine AOL.s1 (h := ?_)
  refine AOL.nil ?_
  refine AW.kq [1, 5] (h := ?_)
  clear cC c_
  have hsz : sizeF s = [i (lg s.l.length : Nat), nil_] := by simp [sizeF, hc]
  rw [hsz]
  clear hsz hc hS
  obtain ⟨sv, sp, sl_⟩ := s
  simp only at h1 hl
  repeat refine AW.seq ?_
  refine AW.block ?_
  repeat refine AW.seq ?_
  refine AW.loopK [1, 5] (fun n s => ∃ (k : Nat), s = ⟨23, [(1, .ptr 1016 0), (5, i k)], [(1016, ⟨25, true, [i sv, i sp, slF rw_ sl_]⟩)]⟩ ∧ k + n = 13 ∧ lgF sl_.length n k = lg sl_.length ∧ (0 < k → 2 ^ (k - 1) < sl_.length)) 13 ?_ ?_
  · exact ⟨0, rfl, rfl, rfl, fun h => absurd h (by decide)⟩
  rintro n s ⟨k, rfl, hk, hg, hp⟩
  have hk12 : k ≤ 12 := by
    rcases Nat.lt_or_ge k 13 with h | h
    · omega
    · have hk13 : k = 13 := by omega
      subst hk13
      have := hp (by omega)
      simp at this; omega
  have kk : decide ((k:Int) ≤ 12) = true := by simp; omega
  have sh := shlk (k := k) (by omega)
  rw [Int.toNat_natCast] at sh
  have kn : ¬ (k:Int) < 0 := by omega
  have hw := inc_ (k := k) (n := 13) (by omega) (by decide)
  repeat refine AW.seq ?_
  refine AW.reg ?_
  iterate 2 refine AOL.s1 (h := ?_)
  refine AOL.nil ?_
  refine AW.kq [1, 5, 12] (h := ?_)
  repeat refine AW.seq ?_
  refine AW.cond rfl (fun c_ => ?_) (fun c_ => ?_)
  · refine AW.skip ?_
    repeat refine AW.seq ?_
    refine AW.block ?_
    repeat refine AW.seq ?_
    refine AW.drw 5 [] (by kernel_rfl) (h := ?_)
    iterate 5 refine ADL.dm 1 (h := ?_)
    refine ADL.done hmix rfl rfl (hT := ?_)
    iterate 1 refine AOL.s1 (h := ?_)
    refine AOL.nil ?_
    refine AW.kq [1, 5, 20] (h := ?_)
    obtain ⟨n, rfl⟩ : ∃ m, n = m + 1 := ⟨n - 1, by omega⟩
    repeat refine AW.seq ?_
    refine AW.cond rfl (fun d_ => ?_) (fun d_ => ?_)
    · have d1 : sl_.length ≤ 2 ^ k := by
        simp only [ge_iff_le, decide_eq_true_eq] at d_
        exact Int.ofNat_le.1 d_
      have : lg sl_.length = k := by rw [← hg, lgF, if_pos d1]
      repeat refine AW.seq ?_
      refine AW.reg ?_
      iterate 3 refine AOL.s1 (h := ?_)
      refine AOL.nil ?_
      refine AW.kq [2, 3] (h := ?_)
      repeat refine AW.seq ?_
      refine AW.ret ?_
      refine ⟨_, [], rfl, HOk.nil _, ?_⟩
      simp only [one?, this]
    have d1 : ¬ sl_.length ≤ 2 ^ k := by
      intro h
      simp only [ge_iff_le, decide_eq_false_iff_not] at d_
      exact d_ (Int.ofNat_le.2 h)
    refine AW.skip ?_
    repeat refine AW.seq ?_
    refine AW.reg ?_
    iterate 3 refine AOL.s1 (h := ?_)
    refine AOL.nil ?_
    exact ⟨n, by omega, k + 1, rfl, by omega, by rw [← hg, lgF, if_neg d1], fun _ => by rw [Nat.add_sub_cancel]; omega⟩
  · cases c_
end Go.Proofs.Ytgcgkpeffjbneaa.E.M

