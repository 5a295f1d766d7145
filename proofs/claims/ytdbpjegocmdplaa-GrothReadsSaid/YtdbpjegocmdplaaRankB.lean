/- Whether a system is sound, and its size, by the document and by the program; errors' numbers: contracts over E. -/
import Derived.Test.YtdbpjegocmdplaaRankA
import Derived.Test.YtdbpjegocmdplaaProg
import Derived.KernelRfl
set_option linter.unusedVariables false
set_option linter.unusedSimpArgs false
set_option maxRecDepth 10000
open Go Go.Proofs.Ytdbpjegocmdplaa.E Go.Proofs
namespace Go.Proofs.Ytdbpjegocmdplaa.E.M
abbrev LenK (s : Rk) : Prop := Len s ∧ ∀ r ∈ s.l, (∀ t ∈ r.a, 0 ≤ t.k) ∧ (∀ t ∈ r.b, 0 ≤ t.k) ∧ (∀ t ∈ r.c, 0 ≤ t.k)
theorem badR_eq {v p : Int} {n : Nat} (hv : -9223372036854775808 ≤ v ∧ v < 9223372036854775808) : (decide (v < 1) || decide (v > 4096) || decide (p < 0) || decide (p > IntKind.i64.wrap (v - 1)) || decide ((n : Int) > 4096)) = (decide (v < 1) || decide (v > 4096) || decide (p < 0) || decide (p ≥ v) || decide ((n : Int) > 4096)) := by
  by_cases h1 : v < 1
  · simp [h1]
  · rw [wrapI_o (by omega) (by omega)]
    have : decide (p > v - 1) = decide (p ≥ v) := by rw [decide_eq_decide]; omega
    rw [this]
/-- the least k with 2 ^ k >= n, from k on -/
def lgF (n : Nat) : Nat → Nat → Nat
  | 0, k => k
  | f + 1, k => if n ≤ 2 ^ k then k else lgF n f (k + 1)
def lg (n : Nat) : Nat := lgF n 13 0
def sizeF (s : Rk) : List AV := if chkF s then [i (lg s.l.length : Nat), nil_] else [i 0, er 3]
theorem shlk {k : Nat} (h : k ≤ 13) : IntKind.i64.wrap (1 * 2 ^ min ((k:Int).toNat) IntKind.i64.bits) = ((2 ^ k : Nat) : Int) := by
  rw [Int.toNat_natCast, Nat.min_eq_left (by simp [IntKind.bits]; omega)]
  have : k = 0 ∨ k = 1 ∨ k = 2 ∨ k = 3 ∨ k = 4 ∨ k = 5 ∨ k = 6 ∨ k = 7 ∨ k = 8 ∨ k = 9 ∨ k = 10 ∨ k = 11 ∨ k = 12 ∨ k = 13 := by omega
  rcases this with rfl | rfl | rfl | rfl | rfl | rfl | rfl | rfl | rfl | rfl | rfl | rfl | rfl | rfl <;> decide
theorem chk_len {s : Rk} (h : chkF s = true) : s.l.length ≤ 4096 := by
  unfold chkF at h
  split at h
  · cases h
  · rename_i hb
    simp [badF] at hb
    omega
theorem qap_Size_c {s : Rk} (hS : Len s) : Fn Try.prog 21 [.agg (rk s)] [] (fun r _ => r = .tup (sizeF s)) := by
  have cC := rank_Check_c hS
  have h1 := hS.1
  refine Fn.enter Try.func21 Try.ntmps21 rfl (h := ?_)
  have tf := tfr
  repeat refine AW.seq ?_
  refine AW.reg ?_
  iterate 3 refine AOL.s1 (h := ?_)
  refine AOL.nil ?_
  refine AW.kq [1] (h := ?_)
  repeat refine AW.seq ?_
  cases hc : chkF s with
  | false =>
    have cC : Fn Try.prog 48 [.agg (rk s)] [] (fun r _ => r = er 3) := by rw [hc] at cC; exact cC
    refine AW.reg ?_
    iterate 1 refine AOL.s1 (h := ?_)
    refine AOL.callD rfl (cC) (by kernel_rfl) rfl rfl (h := ?_)
    iterate 1 refine AOL.s1 (h := ?_)
    refine AOL.nil ?_
    refine AW.kq [1, 4] (h := ?_)
    repeat refine AW.seq ?_
    refine AW.reg ?_
    iterate 2 refine AOL.s1 (h := ?_)
    refine AOL.nil ?_
    refine AW.kq [1, 4, 9] (h := ?_)
    repeat refine AW.seq ?_
    refine AW.cond rfl (fun c_ => ?_) (fun c_ => ?_)
    · repeat refine AW.seq ?_
      refine AW.reg ?_
      iterate 3 refine AOL.s1 (h := ?_)
      refine AOL.nil ?_
      refine AW.kq [2, 3] (h := ?_)
      repeat refine AW.seq ?_
      refine AW.ret ?_
      refine ⟨_, [], rfl, HOk.nil _, ?_⟩
      simp only [one?, sizeF, hc]; rfl
    · cases c_
  | true =>
  have hl := chk_len hc
  have cC : Fn Try.prog 48 [.agg (rk s)] [] (fun r _ => r = nil_) := by rw [hc] at cC; exact cC
  refine AW.reg ?_
  iterate 1 refine AOL.s1 (h := ?_)
  refine AOL.callD rfl (cC) (by kernel_rfl) rfl rfl (h := ?_)
  iterate 1 refine AOL.s1 (h := ?_)
  refine AOL.nil ?_
  refine AW.kq [1, 4] (h := ?_)
  repeat refine AW.seq ?_
  refine AW.reg ?_
  iterate 2 refine AOL.s1 (h := ?_)
  refine AOL.nil ?_
  refine AW.kq [1, 4, 9] (h := ?_)
  repeat refine AW.seq ?_
  refine AW.cond rfl (fun c_ => ?_) (fun c_ => ?_)
  · cases c_
  refine AW.skip ?_
  repeat refine AW.seq ?_
  refine AW.reg ?_
  iterate 1 refine AOL.s1 (h := ?_)
  refine AOL.nil ?_
  refine AW.kq [1, 5] (h := ?_)
  clear cC c_
  have hsz : sizeF s = [i (lg s.l.length : Nat), nil_] := by simp [sizeF, hc]
  rw [hsz]
  clear hsz hc hS
  obtain ⟨sv, sp, sl_⟩ := s
  simp only at h1 hl
  repeat refine AW.seq ?_
  refine AW.block ?_
  repeat refine AW.seq ?_
  refine AW.loopK [1, 5] (fun n s => ∃ (k : Nat), s = ⟨23, [(1, .ptr 1016 0), (5, i k)], [(1016, ⟨24, true, [i sv, i sp, slF rw_ sl_]⟩)]⟩ ∧ k + n = 13 ∧ lgF sl_.length n k = lg sl_.length ∧ (0 < k → 2 ^ (k - 1) < sl_.length)) 13 ?_ ?_
  · exact ⟨0, rfl, rfl, rfl, fun h => absurd h (by decide)⟩
  rintro n s ⟨k, rfl, hk, hg, hp⟩
  have hk12 : k ≤ 12 := by
    rcases Nat.lt_or_ge k 13 with h | h
    · omega
    · have hk13 : k = 13 := by omega
      subst hk13
      have := hp (by omega)
      simp at this; omega
  have kk : decide ((k:Int) ≤ 12) = true := by simp; omega
  have sh := shlk (k := k) (by omega)
  rw [Int.toNat_natCast] at sh
  have kn : ¬ (k:Int) < 0 := by omega
  have hw := incq (k := k) (n := 13) (by omega) (by decide)
  repeat refine AW.seq ?_
  refine AW.reg ?_
  iterate 2 refine AOL.s1 (h := ?_)
  refine AOL.nil ?_
  refine AW.kq [1, 5, 12] (h := ?_)
  repeat refine AW.seq ?_
  refine AW.cond rfl (fun c_ => ?_) (fun c_ => ?_)
  · refine AW.skip ?_
    repeat refine AW.seq ?_
    refine AW.block ?_
    repeat refine AW.seq ?_
    refine AW.drw 5 [] (by kernel_rfl) (h := ?_)
    iterate 5 refine ADL.dm 1 (h := ?_)
    refine ADL.done hmix rfl rfl (hT := ?_)
    iterate 1 refine AOL.s1 (h := ?_)
    refine AOL.nil ?_
    refine AW.kq [1, 5, 20] (h := ?_)
    obtain ⟨n, rfl⟩ : ∃ m, n = m + 1 := ⟨n - 1, by omega⟩
    repeat refine AW.seq ?_
    refine AW.cond rfl (fun d_ => ?_) (fun d_ => ?_)
    · have d1 : sl_.length ≤ 2 ^ k := by
        simp only [ge_iff_le, decide_eq_true_eq] at d_
        exact Int.ofNat_le.1 d_
      have : lg sl_.length = k := by rw [← hg, lgF, if_pos d1]
      repeat refine AW.seq ?_
      refine AW.reg ?_
      iterate 3 refine AOL.s1 (h := ?_)
      refine AOL.nil ?_
      refine AW.kq [2, 3] (h := ?_)
      repeat refine AW.seq ?_
      refine AW.ret ?_
      refine ⟨_, [], rfl, HOk.nil _, ?_⟩
      simp only [one?, this]
    have d1 : ¬ sl_.length ≤ 2 ^ k := by
      intro h
      simp only [ge_iff_le, decide_eq_false_iff_not] at d_
      exact d_ (Int.ofNat_le.2 h)
    refine AW.skip ?_
    repeat refine AW.seq ?_
    refine AW.reg ?_
    iterate 3 refine AOL.s1 (h := ?_)
    refine AOL.nil ?_
    exact ⟨n, by omega, k + 1, rfl, by omega, by rw [← hg, lgF, if_neg d1], fun _ => by rw [Nat.add_sub_cancel]; omega⟩
  · cases c_
def size2F (s : Rk) : List AV := if chkF s then [i (lg s.l.length : Nat), i 0] else [i 0, i 3]
theorem ck {t : Nat} (h : t = 52) : (Try.prog.info? t).any (·.comparable) = true := by subst h; kernel_rfl
end Go.Proofs.Ytdbpjegocmdplaa.E.M

