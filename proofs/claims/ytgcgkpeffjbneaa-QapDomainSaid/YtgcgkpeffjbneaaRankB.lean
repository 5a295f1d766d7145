/- Whether a system is sound, and its size, by the document and by the program; errors' numbers: contracts over E. -/
import Derived.Test.YtgcgkpeffjbneaaRankA
import Derived.Test.YtgcgkpeffjbneaaProg
import Derived.KernelRfl
set_option linter.unusedVariables false
set_option linter.unusedSimpArgs false
set_option maxRecDepth 10000
open Go Go.Proofs.Ytgcgkpeffjbneaa.E Go.Proofs
namespace Go.Proofs.Ytgcgkpeffjbneaa.E.M
abbrev LenK (s : Rk) : Prop := Len s ∧ ∀ r ∈ s.l, (∀ t ∈ r.a, 0 ≤ t.k) ∧ (∀ t ∈ r.b, 0 ≤ t.k) ∧ (∀ t ∈ r.c, 0 ≤ t.k)
theorem badR_eq {v p : Int} {n : Nat} (hv : -9223372036854775808 ≤ v ∧ v < 9223372036854775808) : (decide (v < 1) || decide (v > 4096) || decide (p < 0) || decide (p > IntKind.i64.wrap (v - 1)) || decide ((n : Int) > 4096)) = (decide (v < 1) || decide (v > 4096) || decide (p < 0) || decide (p ≥ v) || decide ((n : Int) > 4096)) := by
  by_cases h1 : v < 1
  · simp [h1]
  · rw [wrapI_o (by omega) (by omega)]
    have : decide (p > v - 1) = decide (p ≥ v) := by rw [decide_eq_decide]; omega
    rw [this]
set_option maxHeartbeats 2000000 in
theorem obolref11_Check_c {s : Rk} (hS : LenK s) (hv : -9223372036854775808 ≤ s.v ∧ s.v < 9223372036854775808) : Fn Try.prog 18 [.agg (rk s)] [] (fun r _ => r = bo (chkF s)) := by
  have hbr := badR_eq (p := s.p) (n := s.l.length) hv
  refine Fn.enter Try.func18 Try.ntmps18 rfl (h := ?_)
  have tf := tf
  repeat refine AW.seq ?_
  refine AW.reg ?_
  iterate 2 refine AOL.s1 (h := ?_)
  refine AOL.nil ?_
  refine AW.kq [1] (h := ?_)
  repeat refine AW.seq ?_
  refine AW.reg ?_
  iterate 4 refine AOL.s1 (h := ?_)
  refine AOL.kq [1, 7] (h := ?_)
  refine AOL.or 7 11 (os' := ?_) (x := ?_) (h1 := ?_) (h0 := ?_) (h := ?_)
  rotate_left 2
  iterate 2
    · intro hb_ K' hK; (iterate 4 refine AOL.s1 (h := ?_)); refine AOL.kq [1, 11] (h := ?_); exact hK
  iterate 1 refine AOL.s1 (h := ?_)
  refine AOL.kq [1, 12] (h := ?_)
  refine AOL.or 12 16 (os' := ?_) (x := ?_) (h1 := ?_) (h0 := ?_) (h := ?_)
  rotate_left 2
  iterate 2
    · intro hb_ K' hK; (iterate 4 refine AOL.s1 (h := ?_)); refine AOL.kq [1, 16] (h := ?_); exact hK
  iterate 1 refine AOL.s1 (h := ?_)
  refine AOL.kq [1, 17] (h := ?_)
  refine AOL.or 17 24 (os' := ?_) (x := ?_) (h1 := ?_) (h0 := ?_) (h := ?_)
  rotate_left 2
  iterate 2
    · intro hb_ K' hK; (iterate 7 refine AOL.s1 (h := ?_)); refine AOL.kq [1, 24] (h := ?_); exact hK
  iterate 1 refine AOL.s1 (h := ?_)
  refine AOL.kq [1, 25] (h := ?_)
  refine AOL.or 25 30 (os' := ?_) (x := ?_) (h1 := ?_) (h0 := ?_) (h := ?_)
  rotate_left 2
  iterate 2
    · intro hb_ K' hK; (iterate 5 refine AOL.s1 (h := ?_)); refine AOL.kq [1, 30] (h := ?_); exact hK
  refine AOL.nil ?_
  refine AW.kq [1, 30] (h := ?_)
  repeat refine AW.seq ?_
  refine AW.cond rfl (fun c_ => ?_) (fun c_ => ?_)
  · have hb : chkF s = false := by unfold chkF badF; rw [← hbr, if_pos (by exact c_)]
    repeat refine AW.seq ?_
    refine AW.reg ?_
    iterate 1 refine AOL.s1 (h := ?_)
    refine AOL.nil ?_
    refine AW.kq [2] (h := ?_)
    repeat refine AW.seq ?_
    refine AW.ret ?_
    refine ⟨_, [], rfl, HOk.nil _, ?_⟩
    simp only [one?, hb]
  have hb : chkF s = rowsF s.v s.l := by unfold chkF badF; rw [← hbr, if_neg (by rw [show _ = false from c_]; decide)]
  rw [hb]
  clear hb c_ hbr hv
  obtain ⟨⟨hS1, hS2⟩, hS3⟩ := hS
  obtain ⟨sv, sp, sl_⟩ := s
  simp only at hS1 hS2 hS3
  refine AW.skip ?_
  repeat refine AW.seq ?_
  refine AW.reg ?_
  iterate 1 refine AOL.s1 (h := ?_)
  refine AOL.nil ?_
  refine AW.kq [1, 3] (h := ?_)
  repeat refine AW.seq ?_
  refine AW.block ?_
  repeat refine AW.seq ?_
  refine AW.loopK [1, 3] (fun n s => ∃ (k : Nat) (r : List Rw), s = ⟨72, [(1, .ptr 1016 0), (3, i k)], [(1016, ⟨25, true, [i sv, i sp, slF rw_ sl_]⟩)]⟩ ∧ sl_.drop k = r ∧ k ≤ sl_.length ∧ n = r.length ∧ rowsF sv r = rowsF sv sl_) sl_.length ?_ ?_
  · exact ⟨0, _, rfl, rfl, Nat.zero_le _, rfl, rfl⟩
  rintro n s ⟨k, r, rfl, hr, hkl, rfl, hi⟩
  repeat refine AW.seq ?_
  refine AW.reg ?_
  iterate 5 refine AOL.s1 (h := ?_)
  refine AOL.nil ?_
  refine AW.kq [1, 3, 35] (h := ?_)
  repeat refine AW.seq ?_
  refine AW.cond rfl (fun c_ => ?_) (fun c_ => ?_)
  · cases r with
    | nil => have := dnil hr hkl; simp at c_; omega
    | cons t r =>
    obtain ⟨hlt, hr', ht⟩ := dcons hr
    have hd : (fm rw_ sl_).drop (k * 3) = slF tm t.a :: slF tm t.b :: slF tm t.c :: fm rw_ r := fm_drop rw_len hr
    have k0 : (0:Int) ≤ k := by omega
    have k1 : (k:Int) < sl_.length := by omega
    have hw := inc_ hlt hS1
    obtain ⟨l1, l2, l3⟩ := hS2 t (List.mem_of_getElem? ht)
    obtain ⟨m1, m2, m3⟩ := hS3 t (List.mem_of_getElem? ht)
    have go : rowsF sv (t :: r) = rowsF sv sl_ := hi
    have cA := obolref11_sound_c (vars := sv) l1 m1
    have cB := obolref11_sound_c (vars := sv) l2 m2
    have cC := obolref11_sound_c (vars := sv) l3 m3
    clear hr hi ht hS2 hS3 m1 m2 m3
    refine AW.skip ?_
    repeat refine AW.seq ?_
    refine AW.block ?_
    repeat refine AW.seq ?_
    have ends : rowsF sv sl_ = false → bo false = bo (rowsF sv sl_) := fun h => by rw [h]
    cases hA : sndF sv (-1) t.a with
    | false =>
      have hbad : rowsF sv sl_ = false := by rw [← go]; simp [rowsF, rowF, hA]
      rw [hA] at cA
      clear go ends cB cC hA
      refine AW.drw 31 [] (by kernel_rfl) (h := ?_)
      iterate 8 refine ADL.dm 1 (h := ?_)
      refine ADL.call rfl (cA) (by kernel_rfl) rfl rfl (h := ?_)
      iterate 22 refine ADL.dm 1 (h := ?_)
      refine ADL.done hmix rfl rfl (hT := ?_)
      iterate 3 refine AOL.s1 (h := ?_)
      refine AOL.nil ?_
      refine AW.kq [1, 3, 71] (h := ?_)
      repeat refine AW.seq ?_
      refine AW.cond rfl (fun d_ => ?_) (fun d_ => ?_)
      · repeat refine AW.seq ?_
        refine AW.reg ?_
        iterate 1 refine AOL.s1 (h := ?_)
        refine AOL.nil ?_
        refine AW.kq [2] (h := ?_)
        repeat refine AW.seq ?_
        refine AW.ret ?_
        refine ⟨_, [], rfl, HOk.nil _, ?_⟩
        simp only [one?, hbad]
      · cases d_
    | true =>
    rw [hA] at cA
    cases hB : sndF sv (-1) t.b with
    | false =>
      have hbad : rowsF sv sl_ = false := by rw [← go]; simp [rowsF, rowF, hB]
      rw [hB] at cB
      clear go ends cC hB hA
      refine AW.drw 31 [] (by kernel_rfl) (h := ?_)
      iterate 8 refine ADL.dm 1 (h := ?_)
      refine ADL.call rfl (cA) (by kernel_rfl) rfl rfl (h := ?_)
      iterate 10 refine ADL.dm 1 (h := ?_)
      refine ADL.call rfl (cB) (by kernel_rfl) rfl rfl (h := ?_)
      iterate 11 refine ADL.dm 1 (h := ?_)
      refine ADL.done hmix rfl rfl (hT := ?_)
      iterate 3 refine AOL.s1 (h := ?_)
      refine AOL.nil ?_
      refine AW.kq [1, 3, 71] (h := ?_)
      repeat refine AW.seq ?_
      refine AW.cond rfl (fun d_ => ?_) (fun d_ => ?_)
      · repeat refine AW.seq ?_
        refine AW.reg ?_
        iterate 1 refine AOL.s1 (h := ?_)
        refine AOL.nil ?_
        refine AW.kq [2] (h := ?_)
        repeat refine AW.seq ?_
        refine AW.ret ?_
        refine ⟨_, [], rfl, HOk.nil _, ?_⟩
        simp only [one?, hbad]
      · cases d_
    | true =>
    rw [hB] at cB
    cases hC : sndF sv (-1) t.c with
    | false =>
      have hbad : rowsF sv sl_ = false := by rw [← go]; simp [rowsF, rowF, hC]
      rw [hC] at cC
      clear go ends hC hA hB
      refine AW.drw 31 [] (by kernel_rfl) (h := ?_)
      iterate 8 refine ADL.dm 1 (h := ?_)
      refine ADL.call rfl (cA) (by kernel_rfl) rfl rfl (h := ?_)
      iterate 10 refine ADL.dm 1 (h := ?_)
      refine ADL.call rfl (cB) (by kernel_rfl) rfl rfl (h := ?_)
      iterate 11 refine ADL.dm 1 (h := ?_)
      refine ADL.done hmix rfl rfl (hT := ?_)
      refine AOL.callD rfl (cC) (by kernel_rfl) rfl rfl (h := ?_)
      iterate 2 refine AOL.s1 (h := ?_)
      refine AOL.nil ?_
      refine AW.kq [1, 3, 71] (h := ?_)
      repeat refine AW.seq ?_
      refine AW.cond rfl (fun d_ => ?_) (fun d_ => ?_)
      · repeat refine AW.seq ?_
        refine AW.reg ?_
        iterate 1 refine AOL.s1 (h := ?_)
        refine AOL.nil ?_
        refine AW.kq [2] (h := ?_)
        repeat refine AW.seq ?_
        refine AW.ret ?_
        refine ⟨_, [], rfl, HOk.nil _, ?_⟩
        simp only [one?, hbad]
      · cases d_
    | true =>
    rw [hC] at cC
    have hg : rowsF sv r = rowsF sv sl_ := by rw [← go]; simp [rowsF, rowF, hA, hB, hC]
    clear go ends hA hB hC
    refine AW.drw 31 [] (by kernel_rfl) (h := ?_)
    iterate 8 refine ADL.dm 1 (h := ?_)
    refine ADL.call rfl (cA) (by kernel_rfl) rfl rfl (h := ?_)
    iterate 10 refine ADL.dm 1 (h := ?_)
    refine ADL.call rfl (cB) (by kernel_rfl) rfl rfl (h := ?_)
    iterate 11 refine ADL.dm 1 (h := ?_)
    refine ADL.done hmix rfl rfl (hT := ?_)
    refine AOL.callD rfl (cC) (by kernel_rfl) rfl rfl (h := ?_)
    iterate 2 refine AOL.s1 (h := ?_)
    refine AOL.nil ?_
    refine AW.kq [1, 3, 71] (h := ?_)
    repeat refine AW.seq ?_
    refine AW.cond rfl (fun d_ => ?_) (fun d_ => ?_)
    · cases d_
    refine AW.skip ?_
    repeat refine AW.seq ?_
    refine AW.reg ?_
    iterate 3 refine AOL.s1 (h := ?_)
    refine AOL.nil ?_
    exact ⟨r.length, by simp, _, r, rfl, hr', hlt, rfl, hg⟩
  have : r = [] := by
    cases r with
    | nil => rfl
    | cons t r => have := (dcons hr).1; simp at c_; omega
  subst this
  have hg : rowsF sv sl_ = true := hi.symm
  clear hi hr
  repeat refine AW.seq ?_
  refine AW.exit ?_
  repeat (first | refine Kseq.ex ?_ | refine Kloop.ex ?_ | refine Kblock.miss (by decide) ?_)
  refine Kblock.hit ?_
  refine AW.kq [] (h := ?_)
  repeat refine AW.seq ?_
  refine AW.reg ?_
  iterate 1 refine AOL.s1 (h := ?_)
  refine AOL.nil ?_
  refine AW.kq [2] (h := ?_)
  repeat refine AW.seq ?_
  refine AW.ret ?_
  refine ⟨_, [], rfl, HOk.nil _, ?_⟩
  simp only [one?, hg]
/-- the least k with 2 ^ k >= n, from k on -/
def lgF (n : Nat) : Nat → Nat → Nat
  | 0, k => k
  | f + 1, k => if n ≤ 2 ^ k then k else lgF n f (k + 1)
def lg (n : Nat) : Nat := lgF n 13 0
def sizeF (s : Rk) : List AV := if chkF s then [i (lg s.l.length : Nat), nil_] else [i 0, er 3]
theorem shlk {k : Nat} (h : k ≤ 13) : IntKind.i64.wrap (1 * 2 ^ min ((k:Int).toNat) IntKind.i64.bits) = ((2 ^ k : Nat) : Int) := by
  rw [Int.toNat_natCast, Nat.min_eq_left (by simp [IntKind.bits]; omega)]
  have : k = 0 ∨ k = 1 ∨ k = 2 ∨ k = 3 ∨ k = 4 ∨ k = 5 ∨ k = 6 ∨ k = 7 ∨ k = 8 ∨ k = 9 ∨ k = 10 ∨ k = 11 ∨ k = 12 ∨ k = 13 := by omega
  rcases this with rfl | rfl | rfl | rfl | rfl | rfl | rfl | rfl | rfl | rfl | rfl | rfl | rfl | rfl <;> decide
theorem chk_len {s : Rk} (h : chkF s = true) : s.l.length ≤ 4096 := by
  unfold chkF at h
  split at h
  · cases h
  · rename_i hb
    simp [badF] at hb
    omega
theorem qap_Size_c {s : Rk} (hS : Len s) : Fn Try.prog 7 [.agg (rk s)] [] (fun r _ => r = .tup (sizeF s)) := by
  have cC := rank_Check_c hS
  have h1 := hS.1
  refine Fn.enter Try.func7 Try.ntmps7 rfl (h := ?_)
  have tf := tf
  repeat refine AW.seq ?_
  refine AW.reg ?_
  iterate 3 refine AOL.s1 (h := ?_)
  refine AOL.nil ?_
  refine AW.kq [1] (h := ?_)
  repeat refine AW.seq ?_
  cases hc : chkF s with
  | false =>
    have cC : Fn Try.prog 17 [.agg (rk s)] [] (fun r _ => r = er 3) := by rw [hc] at cC; exact cC
    refine AW.reg ?_
    iterate 1 refine AOL.s1 (h := ?_)
    refine AOL.callD rfl (cC) (by kernel_rfl) rfl rfl (h := ?_)
    iterate 1 refine AOL.s1 (h := ?_)
    refine AOL.nil ?_
    refine AW.kq [1, 4] (h := ?_)
    repeat refine AW.seq ?_
    refine AW.reg ?_
    iterate 2 refine AOL.s1 (h := ?_)
    refine AOL.nil ?_
    refine AW.kq [1, 4, 9] (h := ?_)
    repeat refine AW.seq ?_
    refine AW.cond rfl (fun c_ => ?_) (fun c_ => ?_)
    · repeat refine AW.seq ?_
      refine AW.reg ?_
      iterate 3 refine AOL.s1 (h := ?_)
      refine AOL.nil ?_
      refine AW.kq [2, 3] (h := ?_)
      repeat refine AW.seq ?_
      refine AW.ret ?_
      refine ⟨_, [], rfl, HOk.nil _, ?_⟩
      simp only [one?, sizeF, hc]; rfl
    · cases c_
  | true =>
  have hl := chk_len hc
  have cC : Fn Try.prog 17 [.agg (rk s)] [] (fun r _ => r = nil_) := by rw [hc] at cC; exact cC
  refine AW.reg ?_
  iterate 1 refine AOL.s1 (h := ?_)
  refine AOL.callD rfl (cC) (by kernel_rfl) rfl rfl (h := ?_)
  iterate 1 refine AOL.s1 (h := ?_)
  refine AOL.nil ?_
  refine AW.kq [1, 4] (h := ?_)
  repeat refine AW.seq ?_
  refine AW.reg ?_
  iterate 2 refine AOL.s1 (h := ?_)
  refine AOL.nil ?_
  refine AW.kq [1, 4, 9] (h := ?_)
  repeat refine AW.seq ?_
  refine AW.cond rfl (fun c_ => ?_) (fun c_ => ?_)
  · cases c_
  refine AW.skip ?_
  repeat refine AW.seq ?_
  refine AW.reg ?_
  iterate 1 refine AOL.s1 (h := ?_)
  refine AOL.nil ?_
  refine AW.kq [1, 5] (h := ?_)
  clear cC c_
  have hsz : sizeF s = [i (lg s.l.length : Nat), nil_] := by simp [sizeF, hc]
  rw [hsz]
  clear hsz hc hS
  obtain ⟨sv, sp, sl_⟩ := s
  simp only at h1 hl
  repeat refine AW.seq ?_
  refine AW.block ?_
  repeat refine AW.seq ?_
  refine AW.loopK [1, 5] (fun n s => ∃ (k : Nat), s = ⟨23, [(1, .ptr 1016 0), (5, i k)], [(1016, ⟨25, true, [i sv, i sp, slF rw_ sl_]⟩)]⟩ ∧ k + n = 13 ∧ lgF sl_.length n k = lg sl_.length ∧ (0 < k → 2 ^ (k - 1) < sl_.length)) 13 ?_ ?_
  · exact ⟨0, rfl, rfl, rfl, fun h => absurd h (by decide)⟩
  rintro n s ⟨k, rfl, hk, hg, hp⟩
  have hk12 : k ≤ 12 := by
    rcases Nat.lt_or_ge k 13 with h | h
    · omega
    · have hk13 : k = 13 := by omega
      subst hk13
      have := hp (by omega)
      simp at this; omega
  have kk : decide ((k:Int) ≤ 12) = true := by simp; omega
  have sh := shlk (k := k) (by omega)
  rw [Int.toNat_natCast] at sh
  have kn : ¬ (k:Int) < 0 := by omega
  have hw := inc_ (k := k) (n := 13) (by omega) (by decide)
  repeat refine AW.seq ?_
  refine AW.reg ?_
  iterate 2 refine AOL.s1 (h := ?_)
  refine AOL.nil ?_
  refine AW.kq [1, 5, 12] (h := ?_)
  repeat refine AW.seq ?_
  refine AW.cond rfl (fun c_ => ?_) (fun c_ => ?_)
  · refine AW.skip ?_
    repeat refine AW.seq ?_
    refine AW.block ?_
    repeat refine AW.seq ?_
    refine AW.drw 5 [] (by kernel_rfl) (h := ?_)
    iterate 5 refine ADL.dm 1 (h := ?_)
    refine ADL.done hmix rfl rfl (hT := ?_)
    iterate 1 refine AOL.s1 (h := ?_)
    refine AOL.nil ?_
    refine AW.kq [1, 5, 20] (h := ?_)
    obtain ⟨n, rfl⟩ : ∃ m, n = m + 1 := ⟨n - 1, by omega⟩
    repeat refine AW.seq ?_
    refine AW.cond rfl (fun d_ => ?_) (fun d_ => ?_)
    · have d1 : sl_.length ≤ 2 ^ k := by
        simp only [ge_iff_le, decide_eq_true_eq] at d_
        exact Int.ofNat_le.1 d_
      have : lg sl_.length = k := by rw [← hg, lgF, if_pos d1]
      repeat refine AW.seq ?_
      refine AW.reg ?_
      iterate 3 refine AOL.s1 (h := ?_)
      refine AOL.nil ?_
      refine AW.kq [2, 3] (h := ?_)
      repeat refine AW.seq ?_
      refine AW.ret ?_
      refine ⟨_, [], rfl, HOk.nil _, ?_⟩
      simp only [one?, this]
    have d1 : ¬ sl_.length ≤ 2 ^ k := by
      intro h
      simp only [ge_iff_le, decide_eq_false_iff_not] at d_
      exact d_ (Int.ofNat_le.2 h)
    refine AW.skip ?_
    repeat refine AW.seq ?_
    refine AW.reg ?_
    iterate 3 refine AOL.s1 (h := ?_)
    refine AOL.nil ?_
    exact ⟨n, by omega, k + 1, rfl, by omega, by rw [← hg, lgF, if_neg d1], fun _ => by rw [Nat.add_sub_cancel]; omega⟩
  · cases c_
def size2F (s : Rk) : List AV := if chkF s then [i (lg s.l.length : Nat), i 0] else [i 0, i 3]
theorem obolref14_Size_c {s : Rk} (hS : LenK s) (hv : -9223372036854775808 ≤ s.v ∧ s.v < 9223372036854775808) : Fn Try.prog 8 [.agg (rk s)] [] (fun r _ => r = .tup (size2F s)) := by
  have cC := obolref11_Check_c hS hv
  have h1 := hS.1.1
  refine Fn.enter Try.func8 Try.ntmps8 rfl (h := ?_)
  have tf := tf
  repeat refine AW.seq ?_
  refine AW.reg ?_
  iterate 3 refine AOL.s1 (h := ?_)
  refine AOL.nil ?_
  refine AW.kq [1] (h := ?_)
  repeat refine AW.seq ?_
  refine AW.reg ?_
  iterate 1 refine AOL.s1 (h := ?_)
  refine AOL.callD rfl (cC) (by kernel_rfl) rfl rfl (h := ?_)
  iterate 1 refine AOL.s1 (h := ?_)
  refine AOL.nil ?_
  refine AW.kq [1, 4] (h := ?_)
  repeat refine AW.seq ?_
  cases hc : chkF s with
  | false =>
    refine AW.reg ?_
    iterate 2 refine AOL.s1 (h := ?_)
    refine AOL.nil ?_
    refine AW.kq [1, 9] (h := ?_)
    repeat refine AW.seq ?_
    refine AW.cond rfl (fun c_ => ?_) (fun c_ => ?_)
    · repeat refine AW.seq ?_
      refine AW.reg ?_
      iterate 2 refine AOL.s1 (h := ?_)
      refine AOL.nil ?_
      refine AW.kq [2, 3] (h := ?_)
      repeat refine AW.seq ?_
      refine AW.ret ?_
      refine ⟨_, [], rfl, HOk.nil _, ?_⟩
      simp only [one?, size2F, hc]; rfl
    · cases c_
  | true =>
  have hl := chk_len hc
  refine AW.reg ?_
  iterate 2 refine AOL.s1 (h := ?_)
  refine AOL.nil ?_
  refine AW.kq [1, 9] (h := ?_)
  repeat refine AW.seq ?_
  refine AW.cond rfl (fun c_ => ?_) (fun c_ => ?_)
  · cases c_
  refine AW.skip ?_
  repeat refine AW.seq ?_
  refine AW.reg ?_
  iterate 1 refine AOL.s1 (h := ?_)
  refine AOL.nil ?_
  refine AW.kq [1, 5] (h := ?_)
  clear cC c_
  have hsz : size2F s = [i (lg s.l.length : Nat), i 0] := by simp [size2F, hc]
  rw [hsz]
  clear hsz hc hS
  obtain ⟨sv, sp, sl_⟩ := s
  simp only at h1 hl
  repeat refine AW.seq ?_
  refine AW.block ?_
  repeat refine AW.seq ?_
  refine AW.loopK [1, 5] (fun n s => ∃ (k : Nat), s = ⟨21, [(1, .ptr 1016 0), (5, i k)], [(1016, ⟨25, true, [i sv, i sp, slF rw_ sl_]⟩)]⟩ ∧ k + n = 13 ∧ lgF sl_.length n k = lg sl_.length ∧ (0 < k → 2 ^ (k - 1) < sl_.length)) 13 ?_ ?_
  · exact ⟨0, rfl, rfl, rfl, fun h => absurd h (by decide)⟩
  rintro n s ⟨k, rfl, hk, hg, hp⟩
  have hk12 : k ≤ 12 := by
    rcases Nat.lt_or_ge k 13 with h | h
    · omega
    · have hk13 : k = 13 := by omega
      subst hk13
      have := hp (by omega)
      simp at this; omega
  have sh := shlk (k := k) (by omega)
  rw [Int.toNat_natCast] at sh
  have kn : ¬ (k:Int) < 0 := by omega
  have hw := inc_ (k := k) (n := 13) (by omega) (by decide)
  obtain ⟨n, rfl⟩ : ∃ m, n = m + 1 := ⟨n - 1, by omega⟩
  repeat refine AW.seq ?_
  refine AW.drw 5 [] (by kernel_rfl) (h := ?_)
  iterate 5 refine ADL.dm 1 (h := ?_)
  refine ADL.done hmix rfl rfl (hT := ?_)
  iterate 1 refine AOL.s1 (h := ?_)
  refine AOL.nil ?_
  refine AW.kq [1, 5, 15] (h := ?_)
  repeat refine AW.seq ?_
  refine AW.cond rfl (fun d_ => ?_) (fun d_ => ?_)
  · have d1 : ¬ sl_.length ≤ 2 ^ k := by
      intro h
      simp only [decide_eq_true_eq] at d_
      have := Int.ofNat_le.2 h
      omega
    refine AW.skip ?_
    repeat refine AW.seq ?_
    refine AW.block ?_
    repeat refine AW.seq ?_
    refine AW.reg ?_
    iterate 3 refine AOL.s1 (h := ?_)
    refine AOL.nil ?_
    exact ⟨n, by omega, k + 1, rfl, by omega, by rw [← hg, lgF, if_neg d1], fun _ => by rw [Nat.add_sub_cancel]; omega⟩
  have d1 : sl_.length ≤ 2 ^ k := by
    simp only [decide_eq_false_iff_not] at d_
    exact Int.ofNat_le.1 (by omega)
  have hlg : lg sl_.length = k := by rw [← hg, lgF, if_pos d1]
  have g12 : decide ((k:Int) > 12) = false := by simp; omega
  repeat refine AW.seq ?_
  refine AW.exit ?_
  repeat (first | refine Kseq.ex ?_ | refine Kloop.ex ?_ | refine Kblock.miss (by decide) ?_)
  refine Kblock.hit ?_
  refine AW.kq [5] (h := ?_)
  repeat refine AW.seq ?_
  refine AW.reg ?_
  iterate 2 refine AOL.s1 (h := ?_)
  refine AOL.nil ?_
  refine AW.kq [5, 19] (h := ?_)
  repeat refine AW.seq ?_
  refine AW.cond rfl (fun c_ => ?_) (fun c_ => ?_)
  · cases c_
  refine AW.skip ?_
  repeat refine AW.seq ?_
  refine AW.reg ?_
  iterate 3 refine AOL.s1 (h := ?_)
  refine AOL.nil ?_
  refine AW.kq [2, 3] (h := ?_)
  repeat refine AW.seq ?_
  refine AW.ret ?_
  refine ⟨_, [], rfl, HOk.nil _, ?_⟩
  simp only [one?, hlg]
theorem obollaw00_Code0_c : Fn Try.prog 9 [nil_] [] (fun r _ => r = i 0) := by
  refine Fn.enter Try.func9 Try.ntmps9 rfl (h := ?_)
  have tf := tf
  repeat refine AW.seq ?_
  refine AW.reg ?_
  iterate 1 refine AOL.s1 (h := ?_)
  refine AOL.nil ?_
  refine AW.kq [0] (h := ?_)
  repeat refine AW.seq ?_
  refine AW.reg ?_
  iterate 2 refine AOL.s1 (h := ?_)
  refine AOL.nil ?_
  refine AW.kq [0, 5] (h := ?_)
  repeat refine AW.seq ?_
  refine AW.cond rfl (fun c_ => ?_) (fun c_ => ?_)
  · repeat refine AW.seq ?_
    refine AW.reg ?_
    iterate 1 refine AOL.s1 (h := ?_)
    refine AOL.nil ?_
    refine AW.kq [2] (h := ?_)
    repeat refine AW.seq ?_
    refine AW.ret ?_
    refine ⟨_, [], rfl, HOk.nil _, ?_⟩
    simp only [one?]
  · cases c_
theorem ck {t : Nat} (h : t = 53) : (Try.prog.info? t).any (·.comparable) = true := by subst h; kernel_rfl
theorem obollaw00_Code_c {m : Nat} (h1 : 1 ≤ m) (h2 : m ≤ 15) : Fn Try.prog 9 [er m] [] (fun r _ => r = i m) := by
  refine Fn.enter Try.func9 Try.ntmps9 rfl (h := ?_)
  have tf := tf
  have ck := ck rfl
  repeat refine AW.seq ?_
  refine AW.reg ?_
  iterate 1 refine AOL.s1 (h := ?_)
  refine AOL.nil ?_
  refine AW.kq [0] (h := ?_)
  repeat refine AW.seq ?_
  refine AW.reg ?_
  iterate 2 refine AOL.s1 (h := ?_)
  refine AOL.nil ?_
  refine AW.kq [0, 5] (h := ?_)
  repeat refine AW.seq ?_
  refine AW.cond rfl (fun c_ => ?_) (fun c_ => ?_)
  · cases c_
  refine AW.skip ?_
  repeat refine AW.seq ?_
  refine AW.reg ?_
  iterate 1 refine AOL.s1 (h := ?_)
  refine AOL.nil ?_
  refine AW.kq [0, 3] (h := ?_)
  repeat refine AW.seq ?_
  refine AW.block ?_
  repeat refine AW.seq ?_
  refine AW.loopK [0, 3] (fun n s => ∃ k : Nat, s = ⟨15, [(0, er m), (3, i k)], []⟩ ∧ k ≤ m ∧ k + n = m) (m - 1) ?_ ?_
  · exact ⟨1, rfl, h1, by omega⟩
  rintro n s ⟨k, rfl, hk, hn⟩
  have k15 : decide ((k:Int) ≤ 15) = true := by simp; omega
  have hw := inc_ (k := k) (n := 16) (by omega) (by decide)
  repeat refine AW.seq ?_
  refine AW.reg ?_
  iterate 2 refine AOL.s1 (h := ?_)
  refine AOL.nil ?_
  refine AW.kq [0, 3, 7] (h := ?_)
  repeat refine AW.seq ?_
  refine AW.cond rfl (fun c_ => ?_) (fun c_ => ?_)
  · refine AW.skip ?_
    repeat refine AW.seq ?_
    refine AW.block ?_
    repeat refine AW.seq ?_
    refine AW.reg ?_
    iterate 4 refine AOL.s1 (h := ?_)
    refine AOL.nil ?_
    refine AW.kq [0, 3, 13] (h := ?_)
    repeat refine AW.seq ?_
    refine AW.cond rfl (fun d_ => ?_) (fun d_ => ?_)
    · have : (m : Int) = k := by simpa using d_
      repeat refine AW.seq ?_
      refine AW.reg ?_
      iterate 2 refine AOL.s1 (h := ?_)
      refine AOL.nil ?_
      refine AW.kq [2] (h := ?_)
      repeat refine AW.seq ?_
      refine AW.ret ?_
      refine ⟨_, [], rfl, HOk.nil _, ?_⟩
      simp only [one?, this]
    have : ¬ (m : Int) = k := by simpa using d_
    refine AW.skip ?_
    repeat refine AW.seq ?_
    refine AW.reg ?_
    iterate 3 refine AOL.s1 (h := ?_)
    refine AOL.nil ?_
    exact ⟨n - 1, by omega, k + 1, rfl, by omega, by omega⟩
  · cases c_
end Go.Proofs.Ytgcgkpeffjbneaa.E.M

