/- The curve's points: the field, and whether something is a point; contracts over E. -/
import Derived.Test.YtdbpjegocmdplaaModI
import Derived.Test.YtdbpjegocmdplaaAlg
import Derived.Test.YtdbpjegocmdplaaProg
import Derived.KernelRfl
set_option linter.unusedVariables false
set_option linter.unusedSimpArgs false
set_option maxRecDepth 10000
open Go Go.Proofs.Ytdbpjegocmdplaa.E Go.Proofs
namespace Go.Proofs.Ytdbpjegocmdplaa.E.M
abbrev FP := Fin 1152921505151057923
def K (a : Int) : FP := Obol.of 1152921505151057923 a
theorem K_add (a b : Int) : K (a + b) = K a + K b := Obol.of_add a b
theorem K_sub (a b : Int) : K (a - b) = K a - K b := Obol.of_sub a b
theorem K_mul (a b : Int) : K (a * b) = K a * K b := Obol.of_mul a b
theorem K_neg (a : Int) : K (-a) = - K a := Obol.of_neg a
theorem K_emod (a : Int) : K (a % 1152921505151057923) = K a := Obol.of_emod a
theorem K_0 : K 0 = 0 := Obol.of_zero
theorem K_1 : K 1 = 1 := Obol.of_one
theorem K_2 : K 2 = 2 := Obol.of_two
theorem K_3 : K 3 = 3 := Obol.of_three
theorem K_4 : K 4 = 4 := Obol.of_four
theorem K_8 : K 8 = 8 := Obol.of_eight
theorem emodP {a b : Int} (h : K a = K b) : a % 1152921505151057923 = b % 1152921505151057923 := Obol.emod_of h
theorem K_iff {a b : Int} : K a = K b ↔ a % 1152921505151057923 = b % 1152921505151057923 := Obol.of_eq

/-- a number below P -/
def lt (a : Int) : Prop := 0 ≤ a ∧ a < 1152921505151057923
theorem lt.w {a : Int} (h : lt a) : w64 a := ⟨h.1, by have := h.2; omega⟩
theorem ltm (a : Int) : lt (a % 1152921505151057923) := ⟨Int.emod_nonneg _ (by decide), Int.emod_lt_of_pos _ (by decide)⟩
theorem lt.self {a : Int} (h : lt a) : a % 1152921505151057923 = a := Int.emod_eq_of_lt h.1 h.2
theorem K_inj {a b : Int} (ha : lt a) (hb : lt b) (h : K a = K b) : a = b := Obol.of_inj ha.1 ha.2 hb.1 hb.2 h
theorem mdP : md 1152921505151057923 := by decide
theorem prmP : prm 1152921505151057923 := Or.inl rfl
theorem K_zero_iff {a : Int} (h : lt a) : K a = 0 ↔ a = 0 := by
  constructor
  · intro e; exact K_inj h ⟨by omega, by decide⟩ (e.trans K_0.symm)
  · intro e; rw [e, K_0]

theorem K_inv {d : Int} (h : lt d) (h0 : d ≠ 0) : K (inv 1152921505151057923 d) * K d = 1 ∧ lt (inv 1152921505151057923 d) := by
  obtain ⟨h1, h2, h3⟩ := inv_mul prmP h.w (by rw [h.self]; exact h0)
  refine ⟨?_, h2, h3⟩
  rw [← K_mul, ← K_emod, h1, K_1]

def isPt (b : Bool) (x y : Int) : Bool :=
  if b = true then (x == 0 && y == 0) else (decide (0 ≤ x ∧ x < 1152921505151057923) && decide (0 ≤ y ∧ y < 1152921505151057923) && (y * y % 1152921505151057923 == (x * x * x + x) % 1152921505151057923))

/-- a point -/
def Pt (t : Bool × Int × Int) : Prop := isPt t.1 t.2.1 t.2.2 = true

theorem Pt.inf {x y : Int} (h : Pt (true, x, y)) : x = 0 ∧ y = 0 := by
  unfold Pt isPt at h; rw [if_pos rfl] at h; simpa using h
theorem Pt.fin {x y : Int} (h : Pt (false, x, y)) : lt x ∧ lt y ∧ K y * K y = K x * K x * K x + K x := by
  unfold Pt isPt at h; simp only [Bool.false_eq_true, if_false] at h
  simp only [Bool.and_eq_true, decide_eq_true_eq, beq_iff_eq] at h
  obtain ⟨⟨h1, h2⟩, h3⟩ := h
  refine ⟨h1, h2, ?_⟩
  have := K_iff.2 h3
  rw [K_mul, K_add, K_mul, K_mul] at this; exact this
theorem Pt.mk {x y : Int} (hx : lt x) (hy : lt y) (h : K y * K y = K x * K x * K x + K x) : Pt (false, x, y) := by
  unfold Pt isPt; simp only [Bool.false_eq_true, if_false]
  simp only [Bool.and_eq_true, decide_eq_true_eq, beq_iff_eq]
  refine ⟨⟨hx, hy⟩, ?_⟩
  apply K_iff.1
  rw [K_mul, K_add, K_mul, K_mul]; exact h
theorem Pt.none : Pt (true, 0, 0) := rfl
theorem Pt.wx {t : Bool × Int × Int} (h : Pt t) : lt t.2.1 ∧ lt t.2.2 := by
  obtain ⟨b, x, y⟩ := t
  cases b with
  | true => obtain ⟨rfl, rfl⟩ := h.inf; exact ⟨⟨by decide, by decide⟩, ⟨by decide, by decide⟩⟩
  | false => exact ⟨h.fin.1, h.fin.2.1⟩

def sureP (b : Bool) (x y : Int) : Bool × Int × Int := if isPt b x y = true then (b, x, y) else (true, 0, 0)

theorem sureP_pt (b : Bool) (x y : Int) : Pt (sureP b x y) := by
  unfold sureP; split
  · assumption
  · exact Pt.none

def lam (a b : Bool × Int × Int) : Int :=
  if a.2.1 = b.2.1 then (3 * (a.2.1 * a.2.1) + 1) * inv 1152921505151057923 ((a.2.2 + a.2.2) % 1152921505151057923) % 1152921505151057923
  else (b.2.2 - a.2.2) * inv 1152921505151057923 ((b.2.1 - a.2.1) % 1152921505151057923) % 1152921505151057923

def lineP (l : Int) (a b : Bool × Int × Int) : Bool × Int × Int :=
  (false, (l * l - a.2.1 - b.2.1) % 1152921505151057923, (l * (a.2.1 - (l * l - a.2.1 - b.2.1) % 1152921505151057923) - a.2.2) % 1152921505151057923)

def sumP (a b : Bool × Int × Int) : Bool × Int × Int :=
  if a.1 = true then b else if b.1 = true then a else if a.2.1 = b.2.1 ∧ (a.2.2 + b.2.2) % 1152921505151057923 = 0 then (true, 0, 0) else lineP (lam a b) a b

/-- two points that are no wall: what stands below the fraction isn't 0 -/
theorem down_ne {ax ay bx bY : Int} (ha : Pt (false, ax, ay)) (hb : Pt (false, bx, bY)) (hw : ¬ (ax = bx ∧ (ay + bY) % 1152921505151057923 = 0)) :
    (if ax = bx then (ay + ay) % 1152921505151057923 else (bx - ax) % 1152921505151057923) ≠ 0 := by
  obtain ⟨ax1, ay1, ac⟩ := ha.fin
  obtain ⟨bx1, by1, bc⟩ := hb.fin
  unfold lt at ax1 ay1 bx1 by1
  split
  · rename_i e
    subst e
    rcases Obol.y_cases Obol.prime_P ac bc with h | h
    · have := K_inj ay1 by1 h
      subst this
      intro h0; exact hw ⟨rfl, h0⟩
    · exfalso; apply hw
      refine ⟨rfl, ?_⟩
      have : K (ay + bY) = K 0 := by rw [K_add, K_0]; exact h
      have := K_iff.1 this
      rw [this]; rfl
  · rename_i e
    omega

theorem line_K {ax ay bx bY l : Int} : K (lineP l (false, ax, ay) (false, bx, bY)).2.1 = K l * K l - K ax - K bx ∧
    K (lineP l (false, ax, ay) (false, bx, bY)).2.2 = K l * (K ax - (K l * K l - K ax - K bx)) - K ay := by
  unfold lineP
  simp only [K_emod, K_sub, K_mul]
  exact ⟨trivial, trivial⟩

theorem lam_K {ax ay bx bY : Int} (ha : Pt (false, ax, ay)) (hb : Pt (false, bx, bY)) (hw : ¬ (ax = bx ∧ (ay + bY) % 1152921505151057923 = 0)) :
    (ax = bx ∧ ay = bY ∧ ∃ i, i * (K ay + K ay) = 1 ∧ K (lam (false, ax, ay) (false, bx, bY)) = (3 * (K ax * K ax) + 1) * i) ∨
    (ax ≠ bx ∧ ∃ i, i * (K bx - K ax) = 1 ∧ K (lam (false, ax, ay) (false, bx, bY)) = (K bY - K ay) * i) := by
  have hd := down_ne ha hb hw
  unfold lam
  simp only
  by_cases e : ax = bx
  · left
    rw [if_pos e] at hd ⊢
    refine ⟨e, ?_, K (inv 1152921505151057923 ((ay + ay) % 1152921505151057923)), ?_, ?_⟩
    · subst e
      rcases Obol.y_cases Obol.prime_P ha.fin.2.2 hb.fin.2.2 with h | h
      · exact K_inj ha.fin.2.1 hb.fin.2.1 h
      · exfalso; apply hw
        refine ⟨rfl, ?_⟩
        have : K (ay + bY) = K 0 := by rw [K_add, K_0]; exact h
        rw [K_iff.1 this]; rfl
    · have := (K_inv (ltm _) hd).1
      rw [K_emod (ay + ay), K_add] at this; exact this
    · simp only [K_emod, K_mul, K_add, K_3, K_1]
  · right
    rw [if_neg e] at hd ⊢
    refine ⟨e, K (inv 1152921505151057923 ((bx - ax) % 1152921505151057923)), ?_, ?_⟩
    · have := (K_inv (ltm _) hd).1
      rw [K_emod (bx - ax), K_sub] at this; exact this
    · simp only [K_emod, K_mul, K_sub]

theorem sumP_pt {a b : Bool × Int × Int} (ha : Pt a) (hb : Pt b) : Pt (sumP a b) := by
  obtain ⟨a0, ax, ay⟩ := a
  obtain ⟨b0, bx, bY⟩ := b
  unfold sumP
  cases a0 with
  | true => exact hb
  | false =>
    cases b0 with
    | true => exact ha
    | false =>
      simp only [Bool.false_eq_true, if_false]
      by_cases hw : ax = bx ∧ (ay + bY) % 1152921505151057923 = 0
      · rw [if_pos hw]; exact Pt.none
      · rw [if_neg hw]
        obtain ⟨h1, h2⟩ := line_K (ax := ax) (ay := ay) (bx := bx) (bY := bY) (l := lam (false, ax, ay) (false, bx, bY))
        refine Pt.mk (ltm _) (ltm _) ?_
        have h1' : K ((lam (false, ax, ay) (false, bx, bY) * lam (false, ax, ay) (false, bx, bY) - ax - bx) % 1152921505151057923) = _ := h1
        have h2' : K ((lam (false, ax, ay) (false, bx, bY) * (ax - (lam (false, ax, ay) (false, bx, bY) * lam (false, ax, ay) (false, bx, bY) - ax - bx) % 1152921505151057923) - ay) % 1152921505151057923) = _ := h2
        rw [h1', h2']
        rcases lam_K ha hb hw with ⟨e, e', i, hi, hl⟩ | ⟨e, i, hi, hl⟩
        · subst e e'
          exact Obol.tangent_on _ _ _ i ha.fin.2.2 hi hl
        · exact Obol.chord_on _ _ _ _ _ i ha.fin.2.2 hb.fin.2.2 hi hl

theorem sumP_fin (ax ay bx bY : Int) : sumP (false, ax, ay) (false, bx, bY) = if ax = bx ∧ (ay + bY) % 1152921505151057923 = 0 then (true, 0, 0) else lineP (lam (false, ax, ay) (false, bx, bY)) (false, ax, ay) (false, bx, bY) := rfl

/-! ### multiples -/

def stepT (a : Bool × Int × Int) (k : Int) (i : Nat) (o : Bool × Int × Int) : Bool × Int × Int :=
  if k / 2 ^ i % 2 = 1 then sumP (sumP o o) a else sumP o o
/-- the bits below the i-th, from the highest one on -/
def tms (a : Bool × Int × Int) (k : Int) : Nat → Bool × Int × Int → Bool × Int × Int
  | 0, o => o
  | i + 1, o => tms a k i (stepT a k i o)
theorem tms_succ (a : Bool × Int × Int) (k : Int) (i : Nat) (o : Bool × Int × Int) : tms a k (i + 1) o = tms a k i (stepT a k i o) := rfl
def timesP (a : Bool × Int × Int) (k : Int) : Bool × Int × Int := tms a k 64 (true, 0, 0)

theorem stepT_pt {a : Bool × Int × Int} (ha : Pt a) (k : Int) (i : Nat) {o : Bool × Int × Int} (ho : Pt o) : Pt (stepT a k i o) := by
  unfold stepT; split
  · exact sumP_pt (sumP_pt ho ho) ha
  · exact sumP_pt ho ho
theorem tms_pt {a : Bool × Int × Int} (ha : Pt a) (k : Int) : ∀ (i : Nat) {o : Bool × Int × Int}, Pt o → Pt (tms a k i o)
  | 0, _, ho => ho
  | i + 1, _, ho => tms_pt ha k i (stepT_pt ha k i ho)
theorem timesP_pt {a : Bool × Int × Int} (ha : Pt a) (k : Int) : Pt (timesP a k) := tms_pt ha k 64 Pt.none


theorem lt_w {a : Int} (h : lt a) : w64 a := h.w
theorem tBoolO : tInt Try.prog 25 = some .u64 := rfl
abbrev TF : Prop := tSz Try.prog 3 = some 1 ∧
    tAgg Try.prog 3 = some false ∧
    tBytes Try.prog 3 = some 8 ∧
    tZero Try.prog 3 = some [(.int .i64 0)] ∧
    tSlice Try.prog 3 = none ∧
    tInt Try.prog 3 = some .i64 ∧
    Try.prog.underlying 3 = some (.int .i64) ∧
    tIface Try.prog 3 = some false ∧
    tCls Try.prog 3 = .other ∧
    tSz Try.prog 4 = some 1 ∧
    tAgg Try.prog 4 = some false ∧
    tBytes Try.prog 4 = some 1 ∧
    tZero Try.prog 4 = some [(.bool false)] ∧
    tSlice Try.prog 4 = none ∧
    tIface Try.prog 4 = some false ∧
    tCls Try.prog 4 = .bool ∧
    tSz Try.prog 25 = some 1 ∧
    tAgg Try.prog 25 = some false ∧
    tBytes Try.prog 25 = some 8 ∧
    tZero Try.prog 25 = some [(.int .u64 0)] ∧
    tSlice Try.prog 25 = none ∧
    tInt Try.prog 25 = some .u64 ∧
    Try.prog.underlying 25 = some (.int .u64) ∧
    tIface Try.prog 25 = some false ∧
    tCls Try.prog 25 = .other ∧
    tSz Try.prog 39 = some 1 ∧
    tAgg Try.prog 39 = some false ∧
    tBytes Try.prog 39 = some 16 ∧
    tZero Try.prog 39 = some [.nilIface] ∧
    tSlice Try.prog 39 = none ∧
    tIface Try.prog 39 = some true ∧
    tCls Try.prog 39 = .iface ∧
    tSz Try.prog 52 = some 1 ∧
    tAgg Try.prog 52 = some false ∧
    tBytes Try.prog 52 = some 8 ∧
    tZero Try.prog 52 = some [(.int .i64 0)] ∧
    tSlice Try.prog 52 = none ∧
    tInt Try.prog 52 = some .i64 ∧
    Try.prog.underlying 52 = some (.int .i64) ∧
    tIface Try.prog 52 = some false ∧
    tCls Try.prog 52 = .other ∧
    tSz Try.prog 32 = some 3 ∧
    tAgg Try.prog 32 = some true ∧
    tBytes Try.prog 32 = some 24 ∧
    tZero Try.prog 32 = some [(.bool false), (.int .u64 0), (.int .u64 0)] ∧
    tSlice Try.prog 32 = none ∧
    tIface Try.prog 32 = some false ∧
    tCls Try.prog 32 = .other ∧
    tField Try.prog 32 0 = some (0, 4) ∧
    tField Try.prog 32 1 = some (1, 25) ∧
    tField Try.prog 32 2 = some (2, 25) ∧
    (∀ ps, aBuild Try.prog 32 ps = (aFill ([(0, 1), (1, 1), (2, 1)][·]?) [.val (.bool false), .val (.int .u64 0), .val (.int .u64 0)] ps).map .agg)
theorem tf : TF :=
  ⟨rfl, rfl, rfl, rfl, rfl, rfl, rfl, rfl, rfl, rfl, rfl, rfl, rfl, rfl, rfl, rfl, rfl, rfl, rfl, rfl, rfl, rfl, rfl, rfl, rfl, rfl, rfl, rfl, rfl, rfl, rfl, rfl, rfl, rfl, rfl, rfl, rfl, rfl, rfl, rfl, rfl, rfl, rfl, rfl, rfl, rfl, rfl, rfl, rfl, rfl, rfl, fun _ => rfl⟩

abbrev pt (t : Bool × Int × Int) : AV := .agg [bo t.1, u t.2.1, u t.2.2]
theorem obolref02_Neg_c {a : Int} (ha : w64 a) : Fn Try.prog 96 [u a] [] (fun r _ => r = u (-a % 1152921505151057923)) := by
  have h5 := tmod_nn (m := 1152921505151057923) ha.1
  have h0 := ltm a
  refine Fn.enter Try.func96 Try.ntmps96 rfl (h := ?_)
  repeat refine AW.seq ?_
  refine AW.reg ?_
  iterate 1 refine AOL.s1 (h := ?_)
  refine AOL.nil ?_
  refine AW.kq [0] (h := ?_)
  repeat refine AW.seq ?_
  refine AW.reg ?_
  iterate 3 refine AOL.s1 (h := ?_)
  refine AOL.nil ?_
  refine AW.kq [3] (h := ?_)
  repeat refine AW.seq ?_
  refine AW.reg ?_
  iterate 2 refine AOL.s1 (h := ?_)
  refine AOL.nil ?_
  refine AW.kq [3, 7] (h := ?_)
  repeat refine AW.seq ?_
  refine AW.cond rfl (fun c_ => ?_) (fun c_ => ?_)
  · have c1 : a % 1152921505151057923 = 0 := by simpa using c_
    repeat refine AW.seq ?_
    refine AW.reg ?_
    iterate 1 refine AOL.s1 (h := ?_)
    refine AOL.nil ?_
    refine AW.kq [2] (h := ?_)
    repeat refine AW.seq ?_
    refine AW.ret ?_
    refine ⟨_, [], rfl, HOk.nil _, ?_⟩
    have : -a % 1152921505151057923 = 0 := by omega
    simp only [one?, this]
  have c1 : ¬ a % 1152921505151057923 = 0 := by simpa using c_
  have w : IntKind.u64.wrap (1152921505151057923 - a % 1152921505151057923) = -a % 1152921505151057923 := by rw [wrapU_o (by have := h0.2; omega) (by have := h0.1; omega)]; omega
  refine AW.skip ?_
  repeat refine AW.seq ?_
  refine AW.reg ?_
  iterate 3 refine AOL.s1 (h := ?_)
  refine AOL.nil ?_
  refine AW.kq [2] (h := ?_)
  repeat refine AW.seq ?_
  refine AW.ret ?_
  refine ⟨_, [], rfl, HOk.nil _, ?_⟩
  simp only [one?]
theorem curve_mul_c {a b : Int} (ha : w64 a) (hb : w64 b) : Fn Try.prog 69 [u a, u b] [] (fun r _ => r = u (a * b % 1152921505151057923)) := by
  refine Fn.enter Try.func69 Try.ntmps69 rfl (h := ?_)
  repeat refine AW.seq ?_
  refine AW.reg ?_
  iterate 1 refine AOL.s1 (h := ?_)
  refine AOL.nil ?_
  refine AW.kq [0, 1] (h := ?_)
  repeat refine AW.seq ?_
  refine AW.reg ?_
  iterate 2 refine AOL.s1 (h := ?_)
  refine AOL.callD rfl (modular_Mul_c mdP ha hb) (by kernel_rfl) rfl rfl (h := ?_)
  iterate 1 refine AOL.s1 (h := ?_)
  refine AOL.nil ?_
  refine AW.kq [4] (h := ?_)
  repeat refine AW.seq ?_
  refine AW.ret ?_
  refine ⟨_, [], rfl, HOk.nil _, ?_⟩
  simp only [one?]
theorem curve_sub_c {a b : Int} (ha : w64 a) (hb : w64 b) : Fn Try.prog 70 [u a, u b] [] (fun r _ => r = u ((a - b) % 1152921505151057923)) := by
  refine Fn.enter Try.func70 Try.ntmps70 rfl (h := ?_)
  repeat refine AW.seq ?_
  refine AW.reg ?_
  iterate 1 refine AOL.s1 (h := ?_)
  refine AOL.nil ?_
  refine AW.kq [0, 1] (h := ?_)
  repeat refine AW.seq ?_
  refine AW.reg ?_
  iterate 2 refine AOL.s1 (h := ?_)
  refine AOL.callD rfl (modular_Sub_c mdP ha hb) (by kernel_rfl) rfl rfl (h := ?_)
  iterate 1 refine AOL.s1 (h := ?_)
  refine AOL.nil ?_
  refine AW.kq [4] (h := ?_)
  repeat refine AW.seq ?_
  refine AW.ret ?_
  refine ⟨_, [], rfl, HOk.nil _, ?_⟩
  simp only [one?]
theorem obolref03_mul_c {a b : Int} (ha : w64 a) (hb : w64 b) : Fn Try.prog 41 [u a, u b] [] (fun r _ => r = u (a * b % 1152921505151057923)) := by
  refine Fn.enter Try.func41 Try.ntmps41 rfl (h := ?_)
  repeat refine AW.seq ?_
  refine AW.reg ?_
  iterate 1 refine AOL.s1 (h := ?_)
  refine AOL.nil ?_
  refine AW.kq [0, 1] (h := ?_)
  repeat refine AW.seq ?_
  refine AW.reg ?_
  iterate 2 refine AOL.s1 (h := ?_)
  refine AOL.callD rfl (obolref01_Mul_c ⟨by decide, by decide⟩ ha hb) (by kernel_rfl) rfl rfl (h := ?_)
  iterate 1 refine AOL.s1 (h := ?_)
  refine AOL.nil ?_
  refine AW.kq [4] (h := ?_)
  repeat refine AW.seq ?_
  refine AW.ret ?_
  refine ⟨_, [], rfl, HOk.nil _, ?_⟩
  simp only [one?]
theorem less_eq (a b : Int) : (a + -b % 1152921505151057923) % 1152921505151057923 = (a - b) % 1152921505151057923 := by
  refine emodP ?_
  rw [K_add, K_emod, K_neg, K_sub]; exact Obol.add_neg_eq _ _
theorem obolref03_less_c {a b : Int} (ha : w64 a) (hb : w64 b) : Fn Try.prog 91 [u a, u b] [] (fun r _ => r = u ((a - b) % 1152921505151057923)) := by
  refine Fn.enter Try.func91 Try.ntmps91 rfl (h := ?_)
  repeat refine AW.seq ?_
  refine AW.reg ?_
  iterate 1 refine AOL.s1 (h := ?_)
  refine AOL.nil ?_
  refine AW.kq [0, 1] (h := ?_)
  repeat refine AW.seq ?_
  refine AW.reg ?_
  iterate 2 refine AOL.s1 (h := ?_)
  refine AOL.callD rfl (obolref02_Neg_c hb) (by kernel_rfl) rfl rfl (h := ?_)
  refine AOL.callD rfl (obolref01_Add_c ⟨by decide, by decide⟩ ha (ltm _).w) (by kernel_rfl) rfl rfl (h := ?_)
  iterate 1 refine AOL.s1 (h := ?_)
  refine AOL.nil ?_
  refine AW.kq [4] (h := ?_)
  repeat refine AW.seq ?_
  refine AW.ret ?_
  refine ⟨_, [], rfl, HOk.nil _, ?_⟩
  simp only [one?, less_eq]
theorem obolref03_Over_c {a b : Int} (ha : w64 a) (hb : lt b) (h0 : b ≠ 0) : Fn Try.prog 95 [u a, u b] [] (fun r _ => r = u (a * inv 1152921505151057923 b % 1152921505151057923)) := by
  have hi := (K_inv hb h0).2
  have cp := obolref01_Pow_c (m := 1152921505151057923) (a := b) (e := 1152921505151057921) ⟨by decide, by decide⟩ hb.w (by decide)
  rw [show ipow 1152921505151057923 b 1152921505151057921 = inv 1152921505151057923 b from rfl] at cp
  refine Fn.enter Try.func95 Try.ntmps95 rfl (h := ?_)
  repeat refine AW.seq ?_
  refine AW.reg ?_
  iterate 1 refine AOL.s1 (h := ?_)
  refine AOL.nil ?_
  refine AW.kq [0, 1] (h := ?_)
  repeat refine AW.seq ?_
  refine AW.reg ?_
  iterate 2 refine AOL.s1 (h := ?_)
  refine AOL.callD rfl (cp) (by kernel_rfl) rfl rfl (h := ?_)
  refine AOL.callD rfl (obolref03_mul_c ha hi.w) (by kernel_rfl) rfl rfl (h := ?_)
  iterate 1 refine AOL.s1 (h := ?_)
  refine AOL.nil ?_
  refine AW.kq [4] (h := ?_)
  repeat refine AW.seq ?_
  refine AW.ret ?_
  refine ⟨_, [], rfl, HOk.nil _, ?_⟩
  simp only [one?]
theorem curve_inf_c : Fn Try.prog 68 [] [] (fun r _ => r = pt (true, 0, 0)) := by
  refine Fn.enter Try.func68 Try.ntmps68 rfl (h := ?_)
  have tf := tf
  repeat refine AW.seq ?_
  refine AW.reg ?_
  iterate 1 refine AOL.s1 (h := ?_)
  refine AOL.nil ?_
  refine AW.kq [0] (h := ?_)
  repeat refine AW.seq ?_
  refine AW.reg ?_
  iterate 2 refine AOL.s1 (h := ?_)
  refine AOL.nil ?_
  refine AW.kq [0] (h := ?_)
  repeat refine AW.seq ?_
  refine AW.ret ?_
  refine ⟨_, [], rfl, HOk.nil _, ?_⟩
  rfl
theorem curve_Gen_c : Fn Try.prog 54 [] [] (fun r _ => r = pt (false, 247390119040843104, 830327839767444578)) := by
  refine Fn.enter Try.func54 Try.ntmps54 rfl (h := ?_)
  have tf := tf
  repeat refine AW.seq ?_
  refine AW.reg ?_
  iterate 1 refine AOL.s1 (h := ?_)
  refine AOL.nil ?_
  refine AW.kq [0] (h := ?_)
  repeat refine AW.seq ?_
  refine AW.reg ?_
  iterate 2 refine AOL.s1 (h := ?_)
  refine AOL.nil ?_
  refine AW.kq [0] (h := ?_)
  repeat refine AW.seq ?_
  refine AW.ret ?_
  refine ⟨_, [], rfl, HOk.nil _, ?_⟩
  rfl
end Go.Proofs.Ytdbpjegocmdplaa.E.M

