/- The contracts of the curve's functions, told by sums and multiples of points. -/
import Derived.Test.YtibmidoepeghpaaZCur
namespace Go.Proofs.Ytibmidoepeghpaa.G
open Go.RowKit Go.Proofs.YtibmidoepeghpaaW.PrintWords Go.Proofs.YtibmidoepeghpaaW.PrintLast Go.Proofs.YtibmidoepeghpaaW.PrintMore

theorem sure_spec {b : Bool} {x y : Int} (hx : w64 x) (hy : w64 y) : PCur.curve_sure.f b x y = some (sureP b x y) := by
  unfold PCur.curve_sure.f sureP PCur.curve_inf.f
  rw [Is_spec hx hy]; simp only [Option.bind_some]
  split <;> rfl
theorem Mul_spec {b : Bool} {x y k : Int} (hx : w64 x) (hy : w64 y) (hk : w64 k) : PCur.curve_Mul.f 66 b x y k = some (timesP (sureP b x y) k) := by
  unfold PCur.curve_Mul.f
  rw [sure_spec hx hy]; simp only [Option.bind_some]
  have hp := sureP_pt b x y
  generalize sureP b x y = a at *
  obtain ⟨a0, ax, ay⟩ := a
  cases a0 with
  | true =>
    obtain ⟨rfl, rfl⟩ := hp.inf
    have h : ∀ i, tms (true, 0, 0) k i (true, 0, 0) = (true, 0, 0) := by
      intro i
      induction i with
      | zero => rfl
      | succ i ih =>
        rw [tms_succ]
        have : stepT (true, 0, 0) k i (true, 0, 0) = (true, 0, 0) := by unfold stepT; split <;> rfl
        rw [this]; exact ih
    rw [if_pos rfl]; unfold timesP; rw [h]
  | false =>
    simp only [Bool.false_eq_true, if_false]
    exact mul_loop hp hk 64 0 0 0 (true, 0, 0) (Nat.le_refl _) ⟨⟨by decide, by decide⟩, ⟨by decide, by decide⟩, ⟨by decide, by decide⟩, Pt.none, Or.inl ⟨rfl, rfl⟩⟩

def negP (t : Bool × Int × Int) : Bool × Int × Int := (t.1, t.2.1, (0 - t.2.2) % 1152921505151057923)

theorem negP_pt {t : Bool × Int × Int} (h : Pt t) : Pt (negP t) := by
  obtain ⟨b, x, y⟩ := t
  cases b with
  | true => obtain ⟨rfl, rfl⟩ := h.inf; exact Pt.none
  | false =>
    obtain ⟨hx, hy, hc⟩ := h.fin
    refine Pt.mk hx (lt_mod _) ?_
    rw [K_emod, K_sub, K_0, ← hc]; exact Obol.neg_sq _

theorem w64R : w64 288230376287764481 := by decide

instance (a : Int) : Decidable (lt a) := by unfold lt; infer_instance
def curve_Is.f (b : Bool) (x y : Int) : Option Bool := if w64 x ∧ w64 y then some (isPt b x y) else none
def curve_Add.f (b : Bool) (x y : Int) (c : Bool) (u v : Int) : Option (Bool × Int × Int) := if w64 x ∧ w64 y ∧ w64 u ∧ w64 v then some (sumP (sureP b x y) (sureP c u v)) else none
def curve_Neg.f (b : Bool) (x y : Int) : Option (Bool × Int × Int) := if w64 x ∧ w64 y then some (negP (sureP b x y)) else none
def curve_Mul.f (b : Bool) (x y k : Int) : Option (Bool × Int × Int) := if w64 x ∧ w64 y ∧ w64 k then some (timesP (sureP b x y) k) else none
def curve_Gen.f : Option (Bool × Int × Int) := some (false, 247390119040843104, 830327839767444578)
theorem curve_Is.calls (b : Bool) (x y : Int) (r : Bool) (w : World) (h : curve_Is.f b x y = some r) :
    Calls Try.prog 23 #[.agg #[.bool b, .int .u64 x, .int .u64 y]] w fun e w' => e = .returned (.bool r) ∧ Below w.heap.size w w' := by
  unfold curve_Is.f at h
  split at h
  · rename_i hc; exact PCur.curve_Is.calls _ _ _ _ w ((Is_spec hc.1 hc.2).trans h)
  · cases h
theorem curve_Add.calls (b : Bool) (x y : Int) (c : Bool) (u v : Int) (r1 : Bool) (r2 r3 : Int) (w : World) (h : curve_Add.f b x y c u v = some (r1, r2, r3)) :
    Calls Try.prog 17 #[.agg #[.bool b, .int .u64 x, .int .u64 y], .agg #[.bool c, .int .u64 u, .int .u64 v]] w fun e w' => e = .returned (.agg #[.bool r1, .int .u64 r2, .int .u64 r3]) ∧ Below w.heap.size w w' := by
  unfold curve_Add.f at h
  split at h
  · rename_i hc
    obtain ⟨h1, h2, h3, h4⟩ := hc
    refine PCur.curve_Add.calls 2 _ _ _ _ _ _ _ _ _ w (Eq.trans ?_ h)
    unfold PCur.curve_Add.f
    rw [sure_spec h1 h2, sure_spec h3 h4]; simp only [Option.bind_some]
    rw [sum_spec (sureP_pt _ _ _) (sureP_pt _ _ _) 0]; rfl
  · cases h
theorem curve_Neg.calls (b : Bool) (x y : Int) (r1 : Bool) (r2 r3 : Int) (w : World) (h : curve_Neg.f b x y = some (r1, r2, r3)) :
    Calls Try.prog 16 #[.agg #[.bool b, .int .u64 x, .int .u64 y]] w fun e w' => e = .returned (.agg #[.bool r1, .int .u64 r2, .int .u64 r3]) ∧ Below w.heap.size w w' := by
  unfold curve_Neg.f at h
  split at h
  · rename_i hc
    refine PCur.curve_Neg.calls _ _ _ _ _ _ w (Eq.trans ?_ h)
    unfold PCur.curve_Neg.f
    rw [sure_spec hc.1 hc.2]; simp only [Option.bind_some]
    rw [csub (by decide) (sureP_pt _ _ _).wx.2.w]; rfl
  · cases h
theorem curve_Mul.calls (b : Bool) (x y k : Int) (r1 : Bool) (r2 r3 : Int) (w : World) (h : curve_Mul.f b x y k = some (r1, r2, r3)) :
    Calls Try.prog 21 #[.agg #[.bool b, .int .u64 x, .int .u64 y], .int .u64 k] w fun e w' => e = .returned (.agg #[.bool r1, .int .u64 r2, .int .u64 r3]) ∧ Below w.heap.size w w' := by
  unfold curve_Mul.f at h
  split at h
  · rename_i hc; exact PCur.curve_Mul.calls 66 _ _ _ _ _ _ _ w ((Mul_spec hc.1 hc.2.1 hc.2.2).trans h)
  · cases h

theorem sureP_self {b : Bool} {x y : Int} (h : isPt b x y = true) : sureP b x y = (b, x, y) := by unfold sureP; rw [if_pos h]

theorem curve_Gen.calls (r1 : Bool) (r2 r3 : Int) (w : World) (h : curve_Gen.f = some (r1, r2, r3)) :
    Calls Try.prog 39 #[] w fun e w' => e = .returned (.agg #[.bool r1, .int .u64 r2, .int .u64 r3]) ∧ Below w.heap.size w w' := PCur.curve_Gen.calls _ _ _ w h
/-- the document's examples -/
theorem gen_pt : Pt (false, 247390119040843104, 830327839767444578) := by
  show isPt false 247390119040843104 830327839767444578 = true
  decide +kernel
theorem gen_order : (timesP (false, 247390119040843104, 830327839767444578) 288230376287764481).1 = true := by decide +kernel
theorem gen_neg : (sumP (false, 247390119040843104, 830327839767444578) (negP (false, 247390119040843104, 830327839767444578))).1 = true := by decide +kernel
theorem gen_twice : (sumP (false, 247390119040843104, 830327839767444578) (false, 247390119040843104, 830327839767444578)).1 = false := by decide +kernel

end Go.Proofs.Ytibmidoepeghpaa.G
