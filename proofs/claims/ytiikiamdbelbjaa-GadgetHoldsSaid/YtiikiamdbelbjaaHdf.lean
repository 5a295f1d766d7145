/- Hashes of numbers, by definition. -/
import Derived.Test.YtiikiamdbelbjaaRankA
import Derived.Test.YtiikiamdbelbjaaProg
import Derived.KernelRfl
set_option linter.unusedVariables false
set_option linter.unusedSimpArgs false
set_option maxRecDepth 10000
open Go Go.Proofs.Ytiikiamdbelbjaa.E Go.Proofs
namespace Go.Proofs.Ytiikiamdbelbjaa.E.M
/-- a number below R -/
def lR (a : Int) : Prop := 0 ≤ a ∧ a < 288230376287764481
theorem lR.w {a : Int} (h : lR a) : w64 a := ⟨h.1, by have := h.2; omega⟩
theorem lR_m (a : Int) : lR (a % 288230376287764481) := ⟨Int.emod_nonneg _ (by decide), Int.emod_lt_of_pos _ (by decide)⟩
def rMul (a b : Int) : Int := a * b % 288230376287764481
def rAdd (a b : Int) : Int := (a + b) % 288230376287764481
theorem rMul_l (a b : Int) : lR (rMul a b) := lR_m _
theorem rAdd_l (a b : Int) : lR (rAdd a b) := lR_m _
theorem w_7 : w64 7 := by decide
def trn (k : Int) : Nat → Int → Int → Int
  | 0, _, x => x
  | n + 1, c, x => trn k n (rMul c 7) (rMul (rAdd x (rAdd k (rMul c 7))) (rMul (rAdd x (rAdd k (rMul c 7))) (rAdd x (rAdd k (rMul c 7)))))
theorem trn_w (k : Int) : ∀ (n : Nat) {c x : Int}, w64 x → w64 (trn k n c x)
  | 0, _, _, h => h
  | n + 1, _, _, _ => trn_w k n (rMul_l _ _).w
def turnH (k x : Int) : Int := rAdd (trn k 3 1 x) k
def twoH (a b : Int) : Int := rAdd (turnH a b) (rAdd a b)
theorem turnH_l (k x : Int) : lR (turnH k x) := rAdd_l _ _
theorem twoH_l (a b : Int) : lR (twoH a b) := rAdd_l _ _
def manyH (V : List Int) : Int := V.foldl twoH ((V.length : Int) % 288230376287764481)
theorem foldH_l {h : Int} (hh : lR h) : ∀ (V : List Int), lR (V.foldl twoH h)
  | [] => hh
  | _ :: V => foldH_l (twoH_l _ _) V
theorem manyH_l (V : List Int) : lR (manyH V) := foldH_l (lR_m _) V
end Go.Proofs.Ytiikiamdbelbjaa.E.M

