/- The program's sum of any two points of the curve (what is no point counting as Inf) is the document's, and its opposite is the opposite. No condition. -/
import Derived.Test.YtibmidoepeghpaaPCurveAddsx2
namespace Go.Proofs.Ytibmidoepeghpaa.Pure
open Go.RowKit Go.Proofs.Ytibmidoepeghpaa.G Go.Proofs.Ytibmidoepeghpaa.PCurveAdds

theorem CurveAdds : obollaw03_CurveAdds.Pure := by
  intro b x y c u v hx hy hu hv
  have x1 := wf_w64 hx
  have y1 := wf_w64 hy
  have u1 := wf_w64 hu
  have v1 := wf_w64 hv
  have ha := sureP_pt b x y
  have hb := sureP_pt c u v
  unfold obollaw03_CurveAdds.f obollaw03_up.f obolref03_Sure.f curve_Neg.f curve_Add.f
  rw [if_pos ⟨x1, y1⟩, if_pos ⟨x1, y1⟩, if_pos ⟨x1, y1, u1, v1⟩, if_pos ⟨u1, v1⟩]
  simp only [Option.bind_some, if_true]
  generalize sureP b x y = s at *
  generalize sureP c u v = t at *
  have hn := negP_pt ha
  have hS : obolref03_Sum.f s.1 s.2.1 s.2.2 t.1 t.2.1 t.2.2 = some (sumP s t) := by unfold obolref03_Sum.f; rw [if_pos ⟨ha, hb⟩]
  have hI : obolref03_Is.f (negP s).1 (negP s).2.1 (negP s).2.2 = some true := by
    unfold obolref03_Is.f; rw [if_pos ⟨hn.wx.1.w, hn.wx.2.w⟩]; exact congrArg some hn
  have hW : obolref03_Wall.f (negP s).1 (negP s).2.1 (negP s).2.2 s.1 s.2.1 s.2.2 = some true := by
    unfold obolref03_Wall.f; rw [if_pos ⟨hn.wx.2, ha.wx.2⟩]
    refine congrArg some (decide_eq_true (Or.inr (Or.inr ⟨rfl, ?_⟩)))
    unfold negP
    simp only
    refine (emodP (b := 0) ?_).trans rfl
    rw [K_add, K_emod, K_sub, K_0]; exact Obol.neg_add_self _
  rw [hS]
  simp only [Option.bind_some]
  rw [if_pos (by simp), hI]
  simp only [Option.bind_some, if_true]
  rw [if_pos (by simp [negP]), if_pos (by simp [negP]), hW]; rfl

end Go.Proofs.Ytibmidoepeghpaa.Pure
