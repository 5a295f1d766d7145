/- The program's multiple of anything (what is no point counting as Inf), by any number, is the document's. No condition. -/
import Derived.Test.YtibmidoepeghpaaPCurveMulsx2
namespace Go.Proofs.Ytibmidoepeghpaa.Pure
open Go.RowKit Go.Proofs.Ytibmidoepeghpaa.G Go.Proofs.Ytibmidoepeghpaa.PCurveMuls

theorem CurveMuls : obollaw03_CurveMuls.Pure := by
  intro b x y k hx hy hk
  have x1 := wf_w64 hx
  have y1 := wf_w64 hy
  have k1 := wf_w64 hk
  have ha := sureP_pt b x y
  unfold obollaw03_CurveMuls.f obollaw03_up.f obolref03_Sure.f curve_Mul.f
  rw [if_pos ⟨x1, y1, k1⟩, if_pos ⟨x1, y1⟩]
  simp only [Option.bind_some, if_true]
  generalize sureP b x y = s at *
  have hT : obolref03_Times.f s.1 s.2.1 s.2.2 k = some (timesP s k) := by unfold obolref03_Times.f; rw [if_pos ⟨ha, k1⟩]
  rw [hT]
  simp

end Go.Proofs.Ytibmidoepeghpaa.Pure
