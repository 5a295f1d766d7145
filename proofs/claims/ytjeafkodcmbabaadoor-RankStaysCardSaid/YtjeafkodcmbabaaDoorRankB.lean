/- Whether a system is sound, and its size, by the document and by the program; errors' numbers: contracts over E. -/
import Derived.Test.YtjeafkodcmbabaaDoorRankA
import Derived.Test.YtjeafkodcmbabaaDoorProg
import Derived.KernelRfl
set_option linter.unusedVariables false
set_option linter.unusedSimpArgs false
set_option maxRecDepth 10000
open Go Go.Proofs.YtjeafkodcmbabaaDoor.E Go.Proofs
namespace Go.Proofs.YtjeafkodcmbabaaDoor.E.M
abbrev LenK (s : Rk) : Prop := Len s ∧ ∀ r ∈ s.l, (∀ t ∈ r.a, 0 ≤ t.k) ∧ (∀ t ∈ r.b, 0 ≤ t.k) ∧ (∀ t ∈ r.c, 0 ≤ t.k)
theorem badR_eq {v p : Int} {n : Nat} (hv : -9223372036854775808 ≤ v ∧ v < 9223372036854775808) : (decide (v < 1) || decide (v > 4096) || decide (p < 0) || decide (p > IntKind.i64.wrap (v - 1)) || decide ((n : Int) > 4096)) = (decide (v < 1) || decide (v > 4096) || decide (p < 0) || decide (p ≥ v) || decide ((n : Int) > 4096)) := by
  by_cases h1 : v < 1
  · simp [h1]
  · rw [wrapI_o (by omega) (by omega)]
    have : decide (p > v - 1) = decide (p ≥ v) := by rw [decide_eq_decide]; omega
    rw [this]
/-- the least k with 2 ^ k >= n, from k on -/
def lgF (n : Nat) : Nat → Nat → Nat
  | 0, k => k
  | f + 1, k => if n ≤ 2 ^ k then k else lgF n f (k + 1)
def lg (n : Nat) : Nat := lgF n 13 0
def sizeF (s : Rk) : List AV := if chkF s then [i (lg s.l.length : Nat), nil_] else [i 0, er 3]
theorem shlk {k : Nat} (h : k ≤ 13) : IntKind.i64.wrap (1 * 2 ^ min ((k:Int).toNat) IntKind.i64.bits) = ((2 ^ k : Nat) : Int) := by
  rw [Int.toNat_natCast, Nat.min_eq_left (by simp [IntKind.bits]; omega)]
  have : k = 0 ∨ k = 1 ∨ k = 2 ∨ k = 3 ∨ k = 4 ∨ k = 5 ∨ k = 6 ∨ k = 7 ∨ k = 8 ∨ k = 9 ∨ k = 10 ∨ k = 11 ∨ k = 12 ∨ k = 13 := by omega
  rcases this with rfl | rfl | rfl | rfl | rfl | rfl | rfl | rfl | rfl | rfl | rfl | rfl | rfl | rfl <;> decide
theorem chk_len {s : Rk} (h : chkF s = true) : s.l.length ≤ 4096 := by
  unfold chkF at h
  split at h
  · cases h
  · rename_i hb
    simp [badF] at hb
    omega
def size2F (s : Rk) : List AV := if chkF s then [i (lg s.l.length : Nat), i 0] else [i 0, i 3]
theorem ck {t : Nat} (h : t = 44) : (Tryd.prog.info? t).any (·.comparable) = true := by subst h; kernel_rfl
end Go.Proofs.YtjeafkodcmbabaaDoor.E.M

