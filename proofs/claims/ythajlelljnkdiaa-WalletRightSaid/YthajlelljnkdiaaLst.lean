/- Lists of numbers, and where a loop over one stands. -/
import Derived.Test.YthajlelljnkdiaaNum0
import Derived.Test.YthajlelljnkdiaaProg
import Derived.KernelRfl
set_option linter.unusedVariables false
set_option linter.unusedSimpArgs false
set_option maxRecDepth 10000
open Go Go.Proofs.Ythajlelljnkdiaa.E Go.Proofs
namespace Go.Proofs.Ythajlelljnkdiaa.E.M
theorem incq {k : Nat} {n : Nat} (h : k < n) (hn : n < 1000000000) : IntKind.i64.wrap ((k:Int) + 1) = ((k + 1 : Nat) : Int) := by
  rw [wrapI_o (by omega) (by omega)]; rfl
theorem dconsq {α : Type} {L : List α} {k : Nat} {a : α} {r : List α} (e : L.drop k = a :: r) : k < L.length ∧ L.drop (k + 1) = r ∧ L[k]? = some a := by
  have h : k < L.length := by
    rcases Nat.lt_or_ge k L.length with h | h
    · exact h
    · rw [List.drop_eq_nil_of_le h] at e; cases e
  refine ⟨h, by rw [← List.drop_drop, e]; rfl, ?_⟩
  have := congrArg (·[0]?) e
  simpa using this
theorem dnilq {α : Type} {L : List α} {k : Nat} (e : L.drop k = []) (h : k ≤ L.length) : k = L.length := by
  have := List.drop_eq_nil_iff.1 e; omega
abbrev u1 (n : Int) : List AV := [u n]
theorem u1_len (n : Int) : (u1 n).length = 1 := rfl
abbrev ul (V : List Int) : AV := slF u1 V
abbrev wV (V : List Int) : Prop := ∀ v ∈ V, w64 v
theorem at_nat {V : List Int} {n : Nat} (h : (n:Int) < V.length) (hV : wV V) : ∃ v, V[n]? = some v ∧ w64 v ∧ (fm u1 V).drop n = u v :: fm u1 (V.drop (n + 1)) := by
  have h : n < V.length := by omega
  refine ⟨V[n], List.getElem?_eq_getElem h, hV _ (List.getElem_mem h), ?_⟩
  have := fm_at u1_len h
  rwa [Nat.mul_one] at this
theorem ends_nil {α : Type} {L r : List α} {k : Nat} (hr : L.drop k = r) (h : ¬ (k:Int) < L.length) : r = [] := by
  cases r with
  | nil => rfl
  | cons t r => have := (dconsq hr).1; omega
theorem ends_cons {α : Type} {L r : List α} {k : Nat} (hr : L.drop k = r) (hkl : k ≤ L.length) (h : (k:Int) < L.length) : ∃ t r', r = t :: r' := by
  cases r with
  | nil => have := dnilq hr hkl; omega
  | cons t r => exact ⟨t, r, rfl⟩
end Go.Proofs.Ythajlelljnkdiaa.E.M

