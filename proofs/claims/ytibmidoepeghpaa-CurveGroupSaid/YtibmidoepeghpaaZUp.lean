/- The document's examples at the head of the curve's statements are so. -/
import Derived.Test.YtibmidoepeghpaaZPUpx
namespace Go.Proofs.Ytibmidoepeghpaa.G
open Go.RowKit Go.Proofs.YtibmidoepeghpaaW.PrintWords Go.Proofs.YtibmidoepeghpaaW.PrintLast Go.Proofs.YtibmidoepeghpaaW.PrintMore

theorem up_spec : PUp.obollaw03_up.f = some true := by
  unfold PUp.obollaw03_up.f curve_Gen.f
  have x1 : w64 247390119040843104 := by decide
  have y1 : w64 830327839767444578 := by decide
  have hs : sureP false 247390119040843104 830327839767444578 = (false, 247390119040843104, 830327839767444578) := sureP_self gen_pt
  have hI : curve_Is.f false 247390119040843104 830327839767444578 = some true := by
    unfold curve_Is.f; rw [if_pos ⟨x1, y1⟩]; exact congrArg some gen_pt
  have hM : curve_Mul.f false 247390119040843104 830327839767444578 288230376287764481 = some (timesP (false, 247390119040843104, 830327839767444578) 288230376287764481) := by
    unfold curve_Mul.f; rw [if_pos ⟨x1, y1, w64R⟩, hs]
  have hN : curve_Neg.f false 247390119040843104 830327839767444578 = some (negP (false, 247390119040843104, 830327839767444578)) := by
    unfold curve_Neg.f; rw [if_pos ⟨x1, y1⟩, hs]
  have hnp := negP_pt gen_pt
  have hA : ∀ t, Pt t → curve_Add.f false 247390119040843104 830327839767444578 t.1 t.2.1 t.2.2 = some (sumP (false, 247390119040843104, 830327839767444578) t) := by
    intro t ht
    unfold curve_Add.f; rw [if_pos ⟨x1, y1, ht.wx.1.w, ht.wx.2.w⟩, hs, sureP_self ht]
  simp only [Option.bind_some, if_true]
  rw [hI]
  simp only [Option.bind_some, if_true]
  rw [hM]
  simp only [Option.bind_some]
  rw [if_pos gen_order, hN]
  simp only [Option.bind_some]
  rw [hA _ hnp]
  simp only [Option.bind_some]
  rw [if_pos gen_neg, hA _ gen_pt]
  simp only [Option.bind_some]
  rw [gen_twice]; rfl

def obollaw03_up.f : Option Bool := some true
theorem obollaw03_up.calls (r : Bool) (w : World) (h : obollaw03_up.f = some r) :
    Calls Try.prog 14 #[] w fun e w' => e = .returned (.bool r) ∧ Below w.heap.size w w' :=
  PUp.obollaw03_up.calls r w (up_spec.trans h) (Option.some.inj h).symm

theorem wf_w64 {a : Int} (h : (Lit.int .u64 a).wf = true) : w64 a := by
  simp [Lit.wf, IntKind.min, IntKind.max, IntKind.bits, IntKind.signed] at h
  unfold w64; omega

end Go.Proofs.Ytibmidoepeghpaa.G
