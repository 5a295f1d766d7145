/- What is handed in is short enough: the reach of a claim. -/
import Derived.Lib.SmallJoins
import Derived.SizedLaws
import Derived.Test.YtdbpjegocmdplaaEE
import Derived.Test.YtdbpjegocmdplaaProg
import Derived.KernelRfl
set_option linter.unusedVariables false
set_option linter.unusedSimpArgs false
set_option maxRecDepth 10000
open Go Go.Proofs.Ytdbpjegocmdplaa.E Go.Proofs
namespace Go.Proofs.Ytdbpjegocmdplaa.E.M
theorem sl_short {H : Type} {enc : TypeId × Value → H} {P : Program} {W : World} {base : Nat} {spare : Nat → Bool} {held : Bool} {ts : List TypeId} {ds : List (DataW H)} {t e : TypeId} {d : DataW H} {v : Value} {ps : List MemPlace} {ρ : Rho} {F : Nat → Prop} {n : Nat} {cs : List AV}
    (hz : (DataW.weightsEach P ts ds).all (· ≤ reachBytes) = true) (j : Nat) (ht : ts[j]? = some t) (hd : ds[j]? = some d) (hu : P.underlying t = some (.slice e))
    (h : DataW.Trod enc P W base spare held t v d ps) (a : VR ρ F W (.sl n cs) v) : n * P.bytesOf e ≤ 140737488355327 := by
  simp only [VR] at a
  obtain ⟨b, cap, vs, rfl, _⟩ := a
  have hl := Go.Joins.sliceLen_Trod hu h
  have hr : reachBytes < 140737488355328 := reachBytes_lt
  cases d with
  | slice el sp =>
    have hs := sized_slice hz ht hd hu
    have hl : el.length = n := hl
    rw [hl] at hs
    have : n * P.bytesOf e ≤ (n + sp.length) * P.bytesOf e := Nat.mul_le_mul_right _ (Nat.le_add_right _ _)
    omega
  | _ =>
    have hl : 0 = n := hl
    subst hl
    rw [Nat.zero_mul]; exact Nat.zero_le _
end Go.Proofs.Ytdbpjegocmdplaa.E.M

