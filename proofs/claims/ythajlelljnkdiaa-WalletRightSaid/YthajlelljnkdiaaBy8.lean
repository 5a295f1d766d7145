/- Rows of bytes. -/
import Derived.Test.YthajlelljnkdiaaNum0
import Derived.Test.YthajlelljnkdiaaProg
import Derived.KernelRfl
set_option linter.unusedVariables false
set_option linter.unusedSimpArgs false
set_option maxRecDepth 10000
open Go Go.Proofs.Ythajlelljnkdiaa.E Go.Proofs
namespace Go.Proofs.Ythajlelljnkdiaa.E.M
theorem by8_set (L : List Int) (k : Nat) (v : Int) : (by8 L).set k (.val (.int .u8 v)) = by8 (L.set k v) := by unfold by8; rw [List.map_set]
theorem by8_len (L : List Int) : (by8 L).length = L.length := by unfold by8; rw [List.length_map]
theorem by8_app (L M : List Int) : by8 L ++ by8 M = by8 (L ++ M) := by unfold by8; rw [List.map_append]
theorem by8_drop (L : List Int) (k : Nat) : (by8 L).drop k = by8 (L.drop k) := by unfold by8; rw [List.map_drop]
theorem by8_take (L : List Int) (k : Nat) : (by8 L).take k = by8 (L.take k) := by unfold by8; rw [List.map_take]
theorem set_drop (L : List Int) (m : Nat) (v : Int) (h : m < L.length) : (L.set m v).drop m = v :: L.drop (m + 1) := by
  rw [List.drop_eq_getElem_cons (by rw [List.length_set]; exact h), List.getElem_set_self, List.drop_set_of_lt (by omega)]
abbrev sl8 (L : List Int) : AV := .sl L.length (by8 L)
theorem by8_snoc (L : List Int) (v : Int) : by8 L ++ [.val (.int .u8 v)] = by8 (L ++ [v]) := by8_app L [v]
theorem by8_at {L : List Int} {k : Nat} {v : Int} {r : List Int} (h : L.drop k = v :: r) : (by8 L).drop k = .val (.int .u8 v) :: by8 r := by rw [by8_drop, h]; rfl
end Go.Proofs.Ythajlelljnkdiaa.E.M

