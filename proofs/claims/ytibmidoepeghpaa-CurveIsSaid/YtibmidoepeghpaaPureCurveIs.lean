/- The program tells of anything whether it is a point of the curve, and whether it is one of order R, as the document does. No condition. -/
import Derived.Test.YtibmidoepeghpaaPCurveIsx1
namespace Go.Proofs.Ytibmidoepeghpaa.Pure
open Go.RowKit Go.Proofs.Ytibmidoepeghpaa.G Go.Proofs.Ytibmidoepeghpaa.PCurveIs

theorem CurveIs : obollaw03_CurveIs.Pure := by
  intro b x y hx hy
  have x1 := wf_w64 hx
  have y1 := wf_w64 hy
  unfold obollaw03_CurveIs.f obollaw03_up.f curve_Is.f obolref03_Is.f curve_In.f obolref03_In.f
  simp only [if_pos (show w64 x ∧ w64 y from ⟨x1, y1⟩), Option.bind_some, if_true, beq_self_eq_true]

end Go.Proofs.Ytibmidoepeghpaa.Pure
