/- Sums of points of the curve (what is no point counting as Inf) may be taken in any order; a sum of multiples is the multiple of the sum; P + 1 of any point are Inf. No condition. -/
import Derived.Test.YtibmidoepeghpaaZPCurveGroupx
import Derived.Test.YtibmidoepeghpaaZGrp
namespace Go.Proofs.Ytibmidoepeghpaa.Pure
open Go.RowKit Go.Proofs.Ytibmidoepeghpaa.G Go.Proofs.Ytibmidoepeghpaa.PCurveGroup

theorem addRaw {b : Bool} {x y : Int} {c : Bool} {u v : Int} (hx : w64 x) (hy : w64 y) (hu : w64 u) (hv : w64 v) : curve_Add.f b x y c u v = some (sumP (sureP b x y) (sureP c u v)) := by
  unfold curve_Add.f; rw [if_pos ⟨hx, hy, hu, hv⟩]
theorem addL {s : Bool × Int × Int} (hs : Pt s) {c : Bool} {u v : Int} (hu : w64 u) (hv : w64 v) : curve_Add.f s.1 s.2.1 s.2.2 c u v = some (sumP s (sureP c u v)) := by
  rw [addRaw hs.wx.1.w hs.wx.2.w hu hv, sureP_self hs]
theorem addR {b : Bool} {x y : Int} (hx : w64 x) (hy : w64 y) {s : Bool × Int × Int} (hs : Pt s) : curve_Add.f b x y s.1 s.2.1 s.2.2 = some (sumP (sureP b x y) s) := by
  rw [addRaw hx hy hs.wx.1.w hs.wx.2.w, sureP_self hs]
theorem addB {s t : Bool × Int × Int} (hs : Pt s) (ht : Pt t) : curve_Add.f s.1 s.2.1 s.2.2 t.1 t.2.1 t.2.2 = some (sumP s t) := by
  rw [addL hs ht.wx.1.w ht.wx.2.w, sureP_self ht]
theorem mulRaw {b : Bool} {x y k : Int} (hx : w64 x) (hy : w64 y) (hk : w64 k) : curve_Mul.f b x y k = some (timesP (sureP b x y) k) := by
  unfold curve_Mul.f; rw [if_pos ⟨hx, hy, hk⟩]
theorem mulB {s : Bool × Int × Int} (hs : Pt s) {k : Int} (hk : w64 k) : curve_Mul.f s.1 s.2.1 s.2.2 k = some (timesP s k) := by
  rw [mulRaw hs.wx.1.w hs.wx.2.w hk, sureP_self hs]
theorem same (s : Bool × Int × Int) : (s.1 == s.1 && (s.2.1 == s.2.1 && (s.2.2 == s.2.2))) = true := by simp

theorem CurveGroup : obollaw03_CurveGroup.Pure := by
  intro a0 a1 a2 b0 b1 b2 c0 c1 c2 k n ha1 ha2 hb1 hb2 hc1 hc2 hk hn
  have x1 := wf_w64 ha1
  have x2 := wf_w64 ha2
  have y1 := wf_w64 hb1
  have y2 := wf_w64 hb2
  have z1 := wf_w64 hc1
  have z2 := wf_w64 hc2
  have k1 := wf_w64 hk
  have n1 := wf_w64 hn
  have hA := sureP_pt a0 a1 a2
  have hB := sureP_pt b0 b1 b2
  have hC := sureP_pt c0 c1 c2
  refine ⟨0 + 1, ?_⟩
  unfold obollaw03_CurveGroup.f obollaw03_up.f
  simp only [Option.bind_some]
  rw [addRaw x1 x2 y1 y2]
  simp only [Option.bind_some]
  rw [addL (sumP_pt hA hB) z1 z2]
  simp only [Option.bind_some]
  rw [addRaw z1 z2 x1 x2]
  simp only [Option.bind_some]
  rw [addR y1 y2 (sumP_pt hC hA)]
  simp only [Option.bind_some]
  rw [mulRaw x1 x2 w64R]
  simp only [Option.bind_some]
  rw [mulB (timesP_pt hA _) (by decide)]
  simp only [Option.bind_some]
  have e1 : sumP (sumP (sureP a0 a1 a2) (sureP b0 b1 b2)) (sureP c0 c1 c2) = sumP (sureP b0 b1 b2) (sumP (sureP c0 c1 c2) (sureP a0 a1 a2)) := by
    rw [sumP_comm hA hB, sumP_assoc hB hA hC, sumP_comm hA hC]
  rw [e1, times_order hA]
  have big : obollaw03_CurveGroup.j0 (0 + 1) k n true true a0 a1 a2 b0 b1 b2 (sumP (sureP b0 b1 b2) (sumP (sureP c0 c1 c2) (sureP a0 a1 a2))).1 (sumP (sureP b0 b1 b2) (sumP (sureP c0 c1 c2) (sureP a0 a1 a2))).2.1 (sumP (sureP b0 b1 b2) (sumP (sureP c0 c1 c2) (sureP a0 a1 a2))).2.2
      (sumP (sureP b0 b1 b2) (sumP (sureP c0 c1 c2) (sureP a0 a1 a2))).1 (sumP (sureP b0 b1 b2) (sumP (sureP c0 c1 c2) (sureP a0 a1 a2))).2.1 (sumP (sureP b0 b1 b2) (sumP (sureP c0 c1 c2) (sureP a0 a1 a2))).2.2 true
      (timesP (timesP (sureP a0 a1 a2) 288230376287764481) 4).2.1 (timesP (timesP (sureP a0 a1 a2) 288230376287764481) 4).2.2 = some true := by
    rw [obollaw03_CurveGroup.j0]
    rw [if_pos rfl, if_pos rfl, if_pos (same _)]
  by_cases hk2 : k > 4611686018427387904
  · rw [if_pos hk2]; exact big
  rw [if_neg hk2]
  by_cases hn2 : n > 4611686018427387904
  · rw [decide_eq_true hn2]; exact big
  rw [decide_eq_false hn2]
  have kn : w64 (k + n) := ⟨by have := k1.1; have := n1.1; omega, by omega⟩
  have wr : IntKind.u64.wrap (k + n) = k + n := wu64_in kn.1 (by have := kn.2; omega)
  rw [obollaw03_CurveGroup.j0]
  rw [if_neg (by decide), mulRaw x1 x2 k1]
  simp only [Option.bind_some]
  rw [mulRaw x1 x2 n1]
  simp only [Option.bind_some]
  rw [addB (timesP_pt hA k) (timesP_pt hA n)]
  simp only [Option.bind_some]
  simp only [if_true]
  rw [if_pos (same _), wr, mulRaw x1 x2 kn]
  simp only [Option.bind_some]
  rw [timesP_add hA k1 n1 kn, if_pos (same _), addRaw x1 x2 y1 y2]
  simp only [Option.bind_some]
  rw [addRaw y1 y2 x1 x2]
  simp only [Option.bind_some]
  rw [sumP_comm hA hB, same]

end Go.Proofs.Ytibmidoepeghpaa.Pure
