/- obollaw00.Is of a Spot, over E (a library's variable stands in E's Glb). -/
import Derived.Test.YtjeafkodcmbabaaDoorEK
import Derived.Test.YtjeafkodcmbabaaDoorModI
import Derived.Test.YtjeafkodcmbabaaDoorIsx
import Derived.Test.YtjeafkodcmbabaaDoorProg
import Derived.KernelRfl
set_option linter.unusedVariables false
set_option linter.unusedSimpArgs false
set_option maxRecDepth 10000
open Go Go.Proofs.YtjeafkodcmbabaaDoor.E Go.Proofs
namespace Go.Proofs.YtjeafkodcmbabaaDoor.E.M
theorem obollaw00_Is_c {p c : Int} : Fn Tryd.prog 14 [.ifc 49 (.fptr [i p, er c]), i p, i c] [] (fun r _ => r = bo true) := by
  intro ρ F w vs hh hv
  simp only [VRs, VR] at hv
  obtain ⟨v0, _, rfl, ⟨x, rfl, a, ws, rfl, ha, ⟨x0, _, rfl, rfl, x1, _, rfl, rfl, rfl⟩, hf⟩, v1, _, rfl, rfl, v2, _, rfl, rfl, rfl⟩ := hv
  rcases hf with hf | ⟨b, off, e, hF, hc⟩
  · cases hf
  cases e
  have g0 := (hc 0 _ rfl).1
  have g1 := (hc 1 _ rfl).1
  refine (Go.Proofs.YtjeafkodcmbabaaDoor.is00_spot b off p c w (hh.glb 0 _ ⟨rfl, rfl⟩).2 g0 g1).mono ?_
  rintro e w' ⟨rfl, hb⟩
  refine ⟨.bool true, ρ, F, bo true, [], rfl, rfl, by simp only [VR], ⟨by simp, hh.inj, hh.apart, fun l r m hl => Nat.lt_of_lt_of_le (hh.lt l r m hl) hb.size, fun b hb' => Nat.lt_of_lt_of_le (hh.flt b hb') hb.size, glb_below hh.glb hh.flt hb.block⟩, ?_⟩
  exact { os := hb.os, tape := hb.tape, output := hb.output, size := hb.size, block := fun k hk _ => hb.block k hk, froz := fun _ h => h, froz' := fun _ h => .inl h, own := fun l r m h => .inl ⟨l, m, h⟩
          same := fun l _ x y h h' => by rw [h] at h'; exact Option.some.inj h'
          gone := fun _ _ h => h }
end Go.Proofs.YtjeafkodcmbabaaDoor.E.M

