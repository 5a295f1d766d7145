/- E, a reader of Go's code as the model has it: a contract of a function is proved over values that are told without memory (EG). -/
import Derived.Test.YtgcgkpeffjbneaaEF

set_option linter.unusedVariables false
set_option linter.unusedSimpArgs false
open Go
namespace Go.Proofs.Ytgcgkpeffjbneaa.E
set_option linter.unusedVariables false
set_option linter.unusedSimpArgs false
/-! ## Less told of a result -/
/-- less told of a result -/
theorem Fn.out {P : Program} {f : FuncId} {as : List AV} {hin : List (Nat × Blk)} {R R' : AV → List (Nat × Blk) → Prop} (h : Fn P f as hin R)
    (hR : ∀ r h, R r h → ∃ r' h', R' r' h' ∧ Wk r r' ∧ ∀ p ∈ h', p ∈ h) : Fn P f as hin R' := by
  intro ρ F w vs h1 h2
  refine (h ρ F w vs h1 h2).mono ?_
  rintro e w' ⟨v, ρ', F', r, hh, rfl, hRr, hvr, hhr, hfr⟩
  obtain ⟨r', h', hR', hw, hs⟩ := hR r hh hRr
  exact ⟨v, ρ', F', r', h', rfl, hR', hw _ _ _ _ hvr, hhr.sub hs, hfr⟩
theorem Fn.outv {P : Program} {f : FuncId} {as : List AV} {hin : List (Nat × Blk)} {v v' : AV} (h : Fn P f as hin (fun r _ => r = v)) (hw : Wk v v') : Fn P f as hin (fun r _ => r = v') :=
  Fn.out h fun r h e => ⟨v', h, rfl, by rw [e]; exact hw, fun _ h => h⟩
theorem Wk.tup {cs cs' : List AV} (h : Wks cs cs') : Wk (.tup cs) (.tup cs') := fun ρ F w v hv => by
  simp only [VR] at hv ⊢
  obtain ⟨vs, e, hv⟩ := hv
  exact ⟨vs, e, h _ _ _ _ hv⟩
theorem Wk.dead (c : AV) : Wk c .dead := fun ρ F w v hv => by simp only [VR]
end Go.Proofs.Ytgcgkpeffjbneaa.E
