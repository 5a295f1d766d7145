/- The statement's own code returns true. -/
import Derived.Test.YtbpehniekpimdaaWalC
set_option linter.unusedVariables false
set_option maxRecDepth 10000
open Go Go.Proofs.Ytbpehniekpimdaa.E Go.Proofs
namespace Go.Proofs.Ytbpehniekpimdaa.E.Wal
set_option maxHeartbeats 4000000 in
theorem obollaw21_WalletPlans_c {L : List H} {need : Int} (hL : L.length ≤ 9223372036854775807) (hn : w64 need) (hv : ∀ x, w64 (gh L x).v) : Fn Try.prog 3 [hs L, u need] [] (fun r _ => r = bo true) := by
  refine Fn.enter Try.func3 Try.ntmps3 rfl (h := ?_)
  have tf := tf
  repeat refine AW.seq ?_
  refine AW.reg ?_
  iterate 1 refine AOL.s1 (h := ?_)
  refine AOL.nil ?_
  refine AW.kp [0, 1] (h := ?_)
  repeat refine AW.seq ?_
  refine AW.reg ?_
  refine AOL.callD rfl obollaw21_up_c (by kernel_rfl) rfl rfl (h := ?_)
  refine AOL.s1 (h := ?_)
  refine AOL.nil ?_
  refine AW.kp [0, 1, 5] (h := ?_)
  repeat refine AW.seq ?_
  refine AW.reg ?_
  iterate 3 refine AOL.s1 (h := ?_)
  refine AOL.nil ?_
  refine AW.kp [0, 1, 5, 16] (h := ?_)
  repeat refine AW.seq ?_
  refine AW.cond rfl (fun c_ => ?_) (fun c_ => ?_)
  · repeat refine AW.seq ?_
    refine AW.reg ?_
    iterate 2 refine AOL.s1 (h := ?_)
    refine AOL.nil ?_
    refine AW.kp [4] (h := ?_)
    repeat refine AW.seq ?_
    refine AW.ret ?_
    exact ⟨_, [], rfl, HOk.nil _, rfl⟩
  have hL' : L.length ≤ 100 := by simp at c_; omega
  have hP := wallet_Plan_c (L := L) (need := need) (by omega)
  have hQ := obollaw21_plan_c (L := L) (need := need) (by omega)
  have hH := wallet_Has_c (L := L) (by omega)
  rw [planEq hn hv] at hQ
  have hpl : (planF L need).1.length ≤ 2 := by
    unfold planF
    split
    · decide
    · split
      · simp
      · split <;> simp
  generalize planF L need = pk at hP hQ hpl
  obtain ⟨p, ok⟩ := pk
  simp only at hP hQ hpl
  clear c_
  refine AW.skip ?_
  repeat refine AW.seq ?_
  refine AW.reg ?_
  iterate 2 refine AOL.s1 (h := ?_)
  refine AOL.callD rfl hP (by kernel_rfl) rfl (by cases ok <;> rfl) (h := ?_)
  iterate 5 refine AOL.s1 (h := ?_)
  refine AOL.nil ?_
  refine AW.kp [0, 1, 5, 6, 7] (h := ?_)
  repeat refine AW.seq ?_
  refine AW.reg ?_
  iterate 2 refine AOL.s1 (h := ?_)
  refine AOL.callD rfl hQ (by kernel_rfl) rfl rfl (h := ?_)
  iterate 5 refine AOL.s1 (h := ?_)
  refine AOL.nil ?_
  refine AW.kp [0, 5, 6, 7, 8, 9] (h := ?_)
  clear hP hQ
  repeat refine AW.seq ?_
  refine AW.reg ?_
  iterate 1 refine AOL.s1 (h := ?_)
  refine AOL.nil ?_
  refine AW.kp [0, 5, 6, 7, 8, 9, 10] (h := ?_)
  repeat refine AW.seq ?_
  refine AW.reg ?_
  iterate 1 refine AOL.s1 (h := ?_)
  refine AOL.nil ?_
  refine AW.kp [0, 5, 6, 7, 8, 9, 10, 11] (h := ?_)
  repeat refine AW.seq ?_
  refine AW.block ?_
  repeat refine AW.seq ?_
  refine AW.loopK [0, 5, 6, 7, 8, 9, 10, 11] (fun n s => ∃ (k : Nat) (a : Int) (r : List H), s = ⟨92, [(0, hs L), (5, bo true), (6, slN p), (7, errV ok), (8, slN p), (9, bo ok), (10, u a), (11, i k)], []⟩ ∧ L.drop k = r ∧ k ≤ L.length ∧ n = r.length ∧ hasS r a = hasS L 0) L.length ?_ ?_
  · exact ⟨0, 0, L, rfl, rfl, Nat.zero_le _, rfl, rfl⟩
  rintro n s ⟨k, a, r, rfl, hr, hkl, rfl, ha⟩
  repeat refine AW.seq ?_
  refine AW.reg ?_
  iterate 4 refine AOL.s1 (h := ?_)
  refine AOL.nil ?_
  refine AW.kp [0, 5, 6, 7, 8, 9, 10, 11, 33] (h := ?_)
  repeat refine AW.seq ?_
  refine AW.cond rfl (fun c_ => ?_) (fun c_ => ?_)
  · cases r with
    | nil => have := drop_nil' hr hkl; simp at c_; omega
    | cons h r =>
    obtain ⟨hr', hlt, hlen⟩ := drop_cons' hr
    have hd := cells_drop hr
    have hk0 : (0:Int) ≤ k := by omega
    have hkl : (k:Int) < L.length := by omega
    have hw := inc (k := k) (by omega)
    clear hlen hH
    refine AW.skip ?_
    repeat refine AW.seq ?_
    refine AW.block ?_
    repeat refine AW.seq ?_
    refine AW.reg ?_
    iterate 6 refine AOL.s1 (h := ?_)
    refine AOL.nil ?_
    refine AW.kp [0, 5, 6, 7, 8, 9, 10, 11, 41] (h := ?_)
    repeat refine AW.seq ?_
    refine AW.cond rfl (fun d_ => ?_) (fun d_ => ?_)
    · repeat refine AW.seq ?_
      refine AW.reg ?_
      iterate 9 refine AOL.s1 (h := ?_)
      refine AOL.nil ?_
      repeat refine AW.seq ?_
      refine AW.reg ?_
      iterate 3 refine AOL.s1 (h := ?_)
      refine AOL.nil ?_
      refine ⟨r.length, by simp, k + 1, _, r, rfl, hr', hlt, rfl, ?_⟩
      rw [← ha, hasS]; simp at d_; rw [d_]; rfl
    · refine AW.skip ?_
      repeat refine AW.seq ?_
      refine AW.reg ?_
      iterate 3 refine AOL.s1 (h := ?_)
      refine AOL.nil ?_
      refine ⟨r.length, by simp, k + 1, _, r, rfl, hr', hlt, rfl, ?_⟩
      rw [← ha, hasS]; simp at d_; rw [d_]; rfl
  have hr0 : r = [] := by
    cases r with
    | nil => rfl
    | cons => obtain ⟨_, h, _⟩ := drop_cons' hr; simp at c_; omega
  rw [hr0] at ha
  have ha' : a = hasS L 0 := ha
  clear ha hr0 hr hkl c_
  rw [← ha'] at hH
  clear ha'
  repeat refine AW.seq ?_
  refine AW.exit ?_
  refine Kseq.ex ?_
  refine Kloop.ex ?_
  refine Kblock.hit ?_
  refine AW.kp [0, 5, 6, 7, 8, 9, 10] (h := ?_)
  repeat refine AW.seq ?_
  have hi37 : (Try.prog.info? 37).any (fun x => x.comparable) = true := rfl
  have d1 : (((1:Nat):Int) == 1) = true := rfl
  have fin : AW Try.prog ((Try.f3.body.getD .skip)) (Kret Try.prog Try.f3 fun r x => r = bo true) ⟨92, [], []⟩ → True := fun _ => trivial
  clear fin
  cases ok
  iterate 2
    · simp only [errV]
      refine AW.reg ?_
      refine AOL.s1 (h := ?_)
      refine AOL.callD rfl hH (by kernel_rfl) rfl rfl (h := ?_)
      clear hH
      iterate 24 refine AOL.s1 (h := ?_)
      refine AOL.nil ?_
      refine AW.kp [5, 6, 8, 75] (h := ?_)
      repeat refine AW.seq ?_
      refine AW.cond rfl (fun c_ => ?_) (fun c_ => ?_)
      · cases c_
      refine AW.skip ?_
      repeat refine AW.seq ?_
      refine AW.reg ?_
      iterate 1 refine AOL.s1 (h := ?_)
      refine AOL.nil ?_
      refine AW.kp [5, 6, 8, 12] (h := ?_)
      repeat refine AW.seq ?_
      refine AW.block ?_
      repeat refine AW.seq ?_
      refine AW.loopK [5, 6, 8, 12] (fun n s => ∃ (k : Nat) (r : List Nat), s = ⟨92, [(5, bo true), (6, slN p), (8, slN p), (12, i k)], []⟩ ∧ p.drop k = r ∧ k ≤ p.length ∧ n = r.length) p.length ?_ ?_
      · exact ⟨0, p, rfl, rfl, Nat.zero_le _, rfl⟩
      rintro n s ⟨k, r, rfl, hr, hkl, rfl⟩
      repeat refine AW.seq ?_
      refine AW.reg ?_
      iterate 4 refine AOL.s1 (h := ?_)
      refine AOL.nil ?_
      refine AW.kp [5, 6, 8, 12, 79] (h := ?_)
      repeat refine AW.seq ?_
      refine AW.cond rfl (fun c_ => ?_) (fun c_ => ?_)
      · cases r with
        | nil => have := drop_nil' hr hkl; simp at c_; omega
        | cons h r =>
        obtain ⟨hr', hlt, hlen⟩ := drop_cons' hr
        have hd := ic_drop hr
        have hk0 : (0:Int) ≤ k := by omega
        have hkl : (k:Int) < p.length := by omega
        have hw := inc (k := k) (by omega)
        clear hlen
        refine AW.skip ?_
        repeat refine AW.seq ?_
        refine AW.block ?_
        repeat refine AW.seq ?_
        refine AW.drw 9 [] (by kernel_rfl) (h := ?_)
        iterate 9 refine ADL.dm 1 (h := ?_)
        refine ADL.done hmix rfl rfl (hT := ?_)
        refine AOL.nil ?_
        refine AW.kp [5, 6, 8, 12, 90] (h := ?_)
        repeat refine AW.seq ?_
        refine AW.cond rfl (fun d_ => ?_) (fun d_ => ?_)
        · cases d_
        refine AW.skip ?_
        repeat refine AW.seq ?_
        refine AW.reg ?_
        iterate 3 refine AOL.s1 (h := ?_)
        refine AOL.nil ?_
        exact ⟨r.length, by simp, k + 1, r, rfl, hr', hlt, rfl⟩
      repeat refine AW.seq ?_
      refine AW.exit ?_
      refine Kseq.ex ?_
      refine Kloop.ex ?_
      refine Kblock.hit ?_
      refine AW.kp [5] (h := ?_)
      repeat refine AW.seq ?_
      refine AW.reg ?_
      iterate 2 refine AOL.s1 (h := ?_)
      refine AOL.nil ?_
      refine AW.kp [4] (h := ?_)
      repeat refine AW.seq ?_
      refine AW.ret ?_
      exact ⟨_, [], rfl, HOk.nil _, rfl⟩

end Go.Proofs.Ytbpehniekpimdaa.E.Wal
