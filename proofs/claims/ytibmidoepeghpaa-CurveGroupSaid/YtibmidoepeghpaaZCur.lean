/- What the program's and the references' points of the curve are: sums and multiples told once, over whole numbers, and as elements of the prime's field. -/
import Derived.Test.YtibmidoepeghpaaZPCurx
import Derived.Test.YtibmidoepeghpaaZAlg
namespace Go.Proofs.Ytibmidoepeghpaa.G
open Go.RowKit Go.Proofs.YtibmidoepeghpaaW.PrintWords Go.Proofs.YtibmidoepeghpaaW.PrintLast Go.Proofs.YtibmidoepeghpaaW.PrintMore

/-! ### the field -/

abbrev FP := Fin 1152921505151057923
def K (a : Int) : FP := Obol.of 1152921505151057923 a
theorem K_add (a b : Int) : K (a + b) = K a + K b := Obol.of_add a b
theorem K_sub (a b : Int) : K (a - b) = K a - K b := Obol.of_sub a b
theorem K_mul (a b : Int) : K (a * b) = K a * K b := Obol.of_mul a b
theorem K_neg (a : Int) : K (-a) = - K a := Obol.of_neg a
theorem K_emod (a : Int) : K (a % 1152921505151057923) = K a := Obol.of_emod a
theorem K_0 : K 0 = 0 := Obol.of_zero
theorem K_1 : K 1 = 1 := Obol.of_one
theorem K_2 : K 2 = 2 := Obol.of_two
theorem K_3 : K 3 = 3 := Obol.of_three
theorem K_4 : K 4 = 4 := Obol.of_four
theorem K_8 : K 8 = 8 := Obol.of_eight
theorem emodP {a b : Int} (h : K a = K b) : a % 1152921505151057923 = b % 1152921505151057923 := Obol.emod_of h
theorem K_iff {a b : Int} : K a = K b ↔ a % 1152921505151057923 = b % 1152921505151057923 := Obol.of_eq

/-- a number below P -/
def lt (a : Int) : Prop := 0 ≤ a ∧ a < 1152921505151057923
theorem lt.w {a : Int} (h : lt a) : w64 a := ⟨h.1, by have := h.2; omega⟩
theorem lt_mod (a : Int) : lt (a % 1152921505151057923) := ⟨Int.emod_nonneg _ (by decide), Int.emod_lt_of_pos _ (by decide)⟩
theorem lt.self {a : Int} (h : lt a) : a % 1152921505151057923 = a := Int.emod_eq_of_lt h.1 h.2
theorem K_inj {a b : Int} (ha : lt a) (hb : lt b) (h : K a = K b) : a = b := Obol.of_inj ha.1 ha.2 hb.1 hb.2 h
theorem mdP : md 1152921505151057923 := by decide
theorem prmP : prm 1152921505151057923 := Or.inl rfl
theorem K_zero_iff {a : Int} (h : lt a) : K a = 0 ↔ a = 0 := by
  constructor
  · intro e; exact K_inj h ⟨by omega, by decide⟩ (e.trans K_0.symm)
  · intro e; rw [e, K_0]

theorem K_inv {d : Int} (h : lt d) (h0 : d ≠ 0) : K (inv 1152921505151057923 d) * K d = 1 ∧ lt (inv 1152921505151057923 d) := by
  obtain ⟨h1, h2, h3⟩ := inv_mul prmP h.w (by rw [h.self]; exact h0)
  refine ⟨?_, h2, h3⟩
  rw [← K_mul, ← K_emod, h1, K_1]

theorem cmul {a b : Int} (ha : w64 a) (hb : w64 b) : PCur.curve_mul.f a b = some (a * b % 1152921505151057923) := by
  unfold PCur.curve_mul.f modular_Mul.f; rw [if_pos ⟨mdP, ha, hb⟩]; rfl
theorem csub {a b : Int} (ha : w64 a) (hb : w64 b) : PCur.curve_sub.f a b = some ((a - b) % 1152921505151057923) := by
  unfold PCur.curve_sub.f modular_Sub.f; rw [if_pos ⟨mdP, ha, hb⟩]; rfl
theorem cadd {a b : Int} (ha : w64 a) (hb : w64 b) : modular_Add.f 1152921505151057923 a b = some ((a + b) % 1152921505151057923) := by
  unfold modular_Add.f; rw [if_pos ⟨mdP, ha, hb⟩]
theorem cinv {d : Int} (h : lt d) (h0 : d ≠ 0) : modular_Inv.f 1152921505151057923 d = some (inv 1152921505151057923 d, none) := by
  unfold modular_Inv.f; rw [if_pos ⟨prmP, h.w⟩, if_neg (by rw [h.self]; exact h0)]
theorem cinv0 : modular_Inv.f 1152921505151057923 0 = some (0, some 2) := by
  unfold modular_Inv.f; rw [if_pos ⟨prmP, by decide⟩, if_pos (by decide)]

/-! ### points -/

def isPt (b : Bool) (x y : Int) : Bool :=
  if b = true then (x == 0 && y == 0) else (decide (0 ≤ x ∧ x < 1152921505151057923) && decide (0 ≤ y ∧ y < 1152921505151057923) && (y * y % 1152921505151057923 == (x * x * x + x) % 1152921505151057923))

/-- a point -/
def Pt (t : Bool × Int × Int) : Prop := isPt t.1 t.2.1 t.2.2 = true

theorem Pt.inf {x y : Int} (h : Pt (true, x, y)) : x = 0 ∧ y = 0 := by
  unfold Pt isPt at h; rw [if_pos rfl] at h; simpa using h
theorem Pt.fin {x y : Int} (h : Pt (false, x, y)) : lt x ∧ lt y ∧ K y * K y = K x * K x * K x + K x := by
  unfold Pt isPt at h; simp only [Bool.false_eq_true, if_false] at h
  simp only [Bool.and_eq_true, decide_eq_true_eq, beq_iff_eq] at h
  obtain ⟨⟨h1, h2⟩, h3⟩ := h
  refine ⟨h1, h2, ?_⟩
  have := K_iff.2 h3
  rw [K_mul, K_add, K_mul, K_mul] at this; exact this
theorem Pt.mk {x y : Int} (hx : lt x) (hy : lt y) (h : K y * K y = K x * K x * K x + K x) : Pt (false, x, y) := by
  unfold Pt isPt; simp only [Bool.false_eq_true, if_false]
  simp only [Bool.and_eq_true, decide_eq_true_eq, beq_iff_eq]
  refine ⟨⟨hx, hy⟩, ?_⟩
  apply K_iff.1
  rw [K_mul, K_add, K_mul, K_mul]; exact h
theorem Pt.none : Pt (true, 0, 0) := rfl
theorem Pt.wx {t : Bool × Int × Int} (h : Pt t) : lt t.2.1 ∧ lt t.2.2 := by
  obtain ⟨b, x, y⟩ := t
  cases b with
  | true => obtain ⟨rfl, rfl⟩ := h.inf; exact ⟨⟨by decide, by decide⟩, ⟨by decide, by decide⟩⟩
  | false => exact ⟨h.fin.1, h.fin.2.1⟩

theorem Is_spec {b : Bool} {x y : Int} (hx : w64 x) (hy : w64 y) : PCur.curve_Is.f b x y = some (isPt b x y) := by
  unfold PCur.curve_Is.f isPt
  cases b with
  | true =>
    rw [if_pos rfl, if_pos rfl]
    by_cases h : x = 0
    · rw [if_pos h]; simp [h]
    · rw [if_neg h]; simp [h]
  | false =>
    simp only [Bool.false_eq_true, if_false]
    by_cases h1 : x < 1152921505151057923
    · rw [if_pos h1]
      by_cases h2 : y < 1152921505151057923
      · rw [if_pos h2, cmul hy hy, cmul hx hx]
        simp only [Option.bind_some]
        rw [cmul (lt_mod _).w hx]
        simp only [Option.bind_some]
        rw [cadd (lt_mod _).w hx]
        have e : (x * x % 1152921505151057923 * x % 1152921505151057923 + x) % 1152921505151057923 = (x * x * x + x) % 1152921505151057923 := by
          refine emodP ?_; simp only [K_add, K_mul, K_emod]
        simp only [Option.bind_some, e]
        have a1 : decide (0 ≤ x ∧ x < 1152921505151057923) = true := decide_eq_true ⟨hx.1, h1⟩
        have a2 : decide (0 ≤ y ∧ y < 1152921505151057923) = true := decide_eq_true ⟨hy.1, h2⟩
        rw [a1, a2]; rfl
      · rw [if_neg h2]
        have a2 : decide (0 ≤ y ∧ y < 1152921505151057923) = false := decide_eq_false (fun h => h2 h.2)
        rw [a2]; simp
    · rw [if_neg h1]
      have a1 : decide (0 ≤ x ∧ x < 1152921505151057923) = false := decide_eq_false (fun h => h1 h.2)
      rw [a1]; simp

def sureP (b : Bool) (x y : Int) : Bool × Int × Int := if isPt b x y = true then (b, x, y) else (true, 0, 0)

theorem sureP_pt (b : Bool) (x y : Int) : Pt (sureP b x y) := by
  unfold sureP; split
  · assumption
  · exact Pt.none

/-! ### sums -/

def lam (a b : Bool × Int × Int) : Int :=
  if a.2.1 = b.2.1 then (3 * (a.2.1 * a.2.1) + 1) * inv 1152921505151057923 ((a.2.2 + a.2.2) % 1152921505151057923) % 1152921505151057923
  else (b.2.2 - a.2.2) * inv 1152921505151057923 ((b.2.1 - a.2.1) % 1152921505151057923) % 1152921505151057923

def lineP (l : Int) (a b : Bool × Int × Int) : Bool × Int × Int :=
  (false, (l * l - a.2.1 - b.2.1) % 1152921505151057923, (l * (a.2.1 - (l * l - a.2.1 - b.2.1) % 1152921505151057923) - a.2.2) % 1152921505151057923)

def sumP (a b : Bool × Int × Int) : Bool × Int × Int :=
  if a.1 = true then b else if b.1 = true then a else if a.2.1 = b.2.1 ∧ (a.2.2 + b.2.2) % 1152921505151057923 = 0 then (true, 0, 0) else lineP (lam a b) a b

/-- two points that are no wall: what stands below the fraction isn't 0 -/
theorem down_ne {ax ay bx bY : Int} (ha : Pt (false, ax, ay)) (hb : Pt (false, bx, bY)) (hw : ¬ (ax = bx ∧ (ay + bY) % 1152921505151057923 = 0)) :
    (if ax = bx then (ay + ay) % 1152921505151057923 else (bx - ax) % 1152921505151057923) ≠ 0 := by
  obtain ⟨ax1, ay1, ac⟩ := ha.fin
  obtain ⟨bx1, by1, bc⟩ := hb.fin
  unfold lt at ax1 ay1 bx1 by1
  split
  · rename_i e
    subst e
    rcases Obol.y_cases Obol.prime_P ac bc with h | h
    · have := K_inj ay1 by1 h
      subst this
      intro h0; exact hw ⟨rfl, h0⟩
    · exfalso; apply hw
      refine ⟨rfl, ?_⟩
      have : K (ay + bY) = K 0 := by rw [K_add, K_0]; exact h
      have := K_iff.1 this
      rw [this]; rfl
  · rename_i e
    omega

theorem raw_j1 {up down : Int} {a0 : Bool} {ax ay : Int} {b0 : Bool} {bx bY : Int} (hu : lt up) (hd : lt down) (hd0 : down ≠ 0) (hax : lt ax) (hay : lt ay) (hbx : lt bx) (k : Nat) :
    PCur.curve_sum.j1 (k + 1) up down a0 ax ay b0 bx bY = some (lineP (up * inv 1152921505151057923 down % 1152921505151057923) (a0, ax, ay) (b0, bx, bY)) := by
  simp only [PCur.curve_sum.j1]
  rw [cinv hd hd0]
  simp only [Option.bind_some, Option.isNone_none, if_true]
  rw [cmul hu.w (K_inv hd hd0).2.w]
  have hl := lt_mod (up * inv 1152921505151057923 down)
  generalize up * inv 1152921505151057923 down % 1152921505151057923 = l at *
  simp only [Option.bind_some]
  rw [cmul hl.w hl.w]
  simp only [Option.bind_some]
  rw [csub (lt_mod _).w hax.w]
  simp only [Option.bind_some]
  rw [csub (lt_mod _).w hbx.w]
  have e1 : ((l * l % 1152921505151057923 - ax) % 1152921505151057923 - bx) % 1152921505151057923 = (l * l - ax - bx) % 1152921505151057923 := by
    refine emodP ?_; simp only [K_sub, K_mul, K_emod]
  rw [e1]
  simp only [Option.bind_some]
  rw [csub hax.w (lt_mod _).w]
  simp only [Option.bind_some]
  rw [cmul hl.w (lt_mod _).w]
  simp only [Option.bind_some]
  rw [csub (lt_mod _).w hay.w]
  have e2 : (l * ((ax - (l * l - ax - bx) % 1152921505151057923) % 1152921505151057923) % 1152921505151057923 - ay) % 1152921505151057923 = (l * (ax - (l * l - ax - bx) % 1152921505151057923) - ay) % 1152921505151057923 := by
    refine emodP ?_; simp only [K_sub, K_mul, K_emod]
  rw [e2]
  rfl

theorem raw_j0 {ax ay bx bY : Int} (ha : Pt (false, ax, ay)) (hb : Pt (false, bx, bY)) (hw : ¬ (ax = bx ∧ (ay + bY) % 1152921505151057923 = 0)) (k : Nat) :
    PCur.curve_sum.j0 (k + 2) false ax ay false bx bY = some (lineP (lam (false, ax, ay) (false, bx, bY)) (false, ax, ay) (false, bx, bY)) := by
  have hd := down_ne ha hb hw
  obtain ⟨ax1, ay1, -⟩ := ha.fin
  obtain ⟨bx1, by1, -⟩ := hb.fin
  rw [PCur.curve_sum.j0, csub by1.w ay1.w]
  simp only [Option.bind_some]
  rw [csub bx1.w ax1.w]
  simp only [Option.bind_some]
  unfold lam
  simp only
  by_cases e : ax = bx
  · rw [if_pos e, if_pos e]
    rw [if_pos e] at hd
    rw [cmul ax1.w ax1.w]
    simp only [Option.bind_some]
    rw [cmul (by decide) (lt_mod _).w]
    simp only [Option.bind_some]
    rw [cadd (lt_mod _).w (by decide)]
    simp only [Option.bind_some]
    rw [cadd ay1.w ay1.w]
    simp only [Option.bind_some]
    rw [raw_j1 (lt_mod _) (lt_mod _) hd ax1 ay1 bx1 k]
    have e1 : (3 * (ax * ax % 1152921505151057923) % 1152921505151057923 + 1) % 1152921505151057923 * inv 1152921505151057923 ((ay + ay) % 1152921505151057923) % 1152921505151057923
        = (3 * (ax * ax) + 1) * inv 1152921505151057923 ((ay + ay) % 1152921505151057923) % 1152921505151057923 := by
      refine emodP ?_; simp only [K_add, K_mul, K_emod]
    rw [e1]
  · rw [if_neg e, if_neg e]
    rw [if_neg e] at hd
    rw [raw_j1 (lt_mod _) (lt_mod _) hd ax1 ay1 bx1 k]
    have e1 : (bY - ay) % 1152921505151057923 * inv 1152921505151057923 ((bx - ax) % 1152921505151057923) % 1152921505151057923
        = (bY - ay) * inv 1152921505151057923 ((bx - ax) % 1152921505151057923) % 1152921505151057923 := by
      refine emodP ?_; simp only [K_sub, K_mul, K_emod]
    rw [e1]

theorem sum_spec {a b : Bool × Int × Int} (ha : Pt a) (hb : Pt b) (k : Nat) : PCur.curve_sum.f (k + 2) a.1 a.2.1 a.2.2 b.1 b.2.1 b.2.2 = some (sumP a b) := by
  obtain ⟨a0, ax, ay⟩ := a
  obtain ⟨b0, bx, bY⟩ := b
  unfold PCur.curve_sum.f sumP
  cases a0 with
  | true => rfl
  | false =>
    cases b0 with
    | true => rfl
    | false =>
      simp only [Bool.false_eq_true, if_false]
      have hay := ha.wx.2
      have hby := hb.wx.2
      by_cases e : ax = bx
      · rw [if_pos e, cadd hay.w hby.w]
        simp only [Option.bind_some]
        by_cases h0 : (ay + bY) % 1152921505151057923 = 0
        · rw [if_pos h0, if_pos ⟨e, h0⟩]; rfl
        · rw [if_neg h0, if_neg (fun h => h0 h.2)]
          exact raw_j0 ha hb (fun h => h0 h.2) k
      · rw [if_neg e, if_neg (fun h => e h.1)]
        exact raw_j0 ha hb (fun h => e h.1) k

/-- the line's numbers, as elements -/
theorem line_K {ax ay bx bY l : Int} : K (lineP l (false, ax, ay) (false, bx, bY)).2.1 = K l * K l - K ax - K bx ∧
    K (lineP l (false, ax, ay) (false, bx, bY)).2.2 = K l * (K ax - (K l * K l - K ax - K bx)) - K ay := by
  unfold lineP
  simp only [K_emod, K_sub, K_mul]
  exact ⟨trivial, trivial⟩

theorem lam_K {ax ay bx bY : Int} (ha : Pt (false, ax, ay)) (hb : Pt (false, bx, bY)) (hw : ¬ (ax = bx ∧ (ay + bY) % 1152921505151057923 = 0)) :
    (ax = bx ∧ ay = bY ∧ ∃ i, i * (K ay + K ay) = 1 ∧ K (lam (false, ax, ay) (false, bx, bY)) = (3 * (K ax * K ax) + 1) * i) ∨
    (ax ≠ bx ∧ ∃ i, i * (K bx - K ax) = 1 ∧ K (lam (false, ax, ay) (false, bx, bY)) = (K bY - K ay) * i) := by
  have hd := down_ne ha hb hw
  unfold lam
  simp only
  by_cases e : ax = bx
  · left
    rw [if_pos e] at hd ⊢
    refine ⟨e, ?_, K (inv 1152921505151057923 ((ay + ay) % 1152921505151057923)), ?_, ?_⟩
    · subst e
      rcases Obol.y_cases Obol.prime_P ha.fin.2.2 hb.fin.2.2 with h | h
      · exact K_inj ha.fin.2.1 hb.fin.2.1 h
      · exfalso; apply hw
        refine ⟨rfl, ?_⟩
        have : K (ay + bY) = K 0 := by rw [K_add, K_0]; exact h
        rw [K_iff.1 this]; rfl
    · have := (K_inv (lt_mod _) hd).1
      rw [K_emod (ay + ay), K_add] at this; exact this
    · simp only [K_emod, K_mul, K_add, K_3, K_1]
  · right
    rw [if_neg e] at hd ⊢
    refine ⟨e, K (inv 1152921505151057923 ((bx - ax) % 1152921505151057923)), ?_, ?_⟩
    · have := (K_inv (lt_mod _) hd).1
      rw [K_emod (bx - ax), K_sub] at this; exact this
    · simp only [K_emod, K_mul, K_sub]

theorem sumP_pt {a b : Bool × Int × Int} (ha : Pt a) (hb : Pt b) : Pt (sumP a b) := by
  obtain ⟨a0, ax, ay⟩ := a
  obtain ⟨b0, bx, bY⟩ := b
  unfold sumP
  cases a0 with
  | true => exact hb
  | false =>
    cases b0 with
    | true => exact ha
    | false =>
      simp only [Bool.false_eq_true, if_false]
      by_cases hw : ax = bx ∧ (ay + bY) % 1152921505151057923 = 0
      · rw [if_pos hw]; exact Pt.none
      · rw [if_neg hw]
        obtain ⟨h1, h2⟩ := line_K (ax := ax) (ay := ay) (bx := bx) (bY := bY) (l := lam (false, ax, ay) (false, bx, bY))
        refine Pt.mk (lt_mod _) (lt_mod _) ?_
        have h1' : K ((lam (false, ax, ay) (false, bx, bY) * lam (false, ax, ay) (false, bx, bY) - ax - bx) % 1152921505151057923) = _ := h1
        have h2' : K ((lam (false, ax, ay) (false, bx, bY) * (ax - (lam (false, ax, ay) (false, bx, bY) * lam (false, ax, ay) (false, bx, bY) - ax - bx) % 1152921505151057923) - ay) % 1152921505151057923) = _ := h2
        rw [h1', h2']
        rcases lam_K ha hb hw with ⟨e, e', i, hi, hl⟩ | ⟨e, i, hi, hl⟩
        · subst e e'
          exact Obol.tangent_on _ _ _ i ha.fin.2.2 hi hl
        · exact Obol.chord_on _ _ _ _ _ i ha.fin.2.2 hb.fin.2.2 hi hl

theorem sumP_fin (ax ay bx bY : Int) : sumP (false, ax, ay) (false, bx, bY) = if ax = bx ∧ (ay + bY) % 1152921505151057923 = 0 then (true, 0, 0) else lineP (lam (false, ax, ay) (false, bx, bY)) (false, ax, ay) (false, bx, bY) := rfl

/-! ### multiples -/

def stepT (a : Bool × Int × Int) (k : Int) (i : Nat) (o : Bool × Int × Int) : Bool × Int × Int :=
  if k / 2 ^ i % 2 = 1 then sumP (sumP o o) a else sumP o o
/-- the bits below the i-th, from the highest one on -/
def tms (a : Bool × Int × Int) (k : Int) : Nat → Bool × Int × Int → Bool × Int × Int
  | 0, o => o
  | i + 1, o => tms a k i (stepT a k i o)
theorem tms_succ (a : Bool × Int × Int) (k : Int) (i : Nat) (o : Bool × Int × Int) : tms a k (i + 1) o = tms a k i (stepT a k i o) := rfl
def timesP (a : Bool × Int × Int) (k : Int) : Bool × Int × Int := tms a k 64 (true, 0, 0)

theorem stepT_pt {a : Bool × Int × Int} (ha : Pt a) (k : Int) (i : Nat) {o : Bool × Int × Int} (ho : Pt o) : Pt (stepT a k i o) := by
  unfold stepT; split
  · exact sumP_pt (sumP_pt ho ho) ha
  · exact sumP_pt ho ho
theorem tms_pt {a : Bool × Int × Int} (ha : Pt a) (k : Int) : ∀ (i : Nat) {o : Bool × Int × Int}, Pt o → Pt (tms a k i o)
  | 0, _, ho => ho
  | i + 1, _, ho => tms_pt ha k i (stepT_pt ha k i ho)
theorem timesP_pt {a : Bool × Int × Int} (ha : Pt a) (k : Int) : Pt (timesP a k) := tms_pt ha k 64 Pt.none

/-- a scaled point stands for a point -/
structure Rep (x y z : Int) (o : Bool × Int × Int) : Prop where
  lx : lt x
  ly : lt y
  lz : lt z
  po : Pt o
  is : (z = 0 ∧ o = (true, 0, 0)) ∨ (z ≠ 0 ∧ ∃ X Y, o = (false, X, Y) ∧ K x = K X * (K z * K z) ∧ K y = K Y * (K z * K z * K z))

theorem K_ne {z : Int} (h : lt z) (h0 : z ≠ 0) : K z ≠ 0 := fun e => h0 ((K_zero_iff h).1 e)

theorem twice_spec {x y z : Int} {o : Bool × Int × Int} (h : Rep x y z o) (hz : z ≠ 0) :
    ∃ x' y' z', PCur.curve_twice.f x y z = some (x', y', z') ∧ Rep x' y' z' (sumP o o) := by
  obtain ⟨hx, hy, hzl, ho, his⟩ := h
  rcases his with ⟨h0, -⟩ | ⟨-, X, Y, rfl, ex, ey⟩
  · exact absurd h0 hz
  unfold PCur.curve_twice.f
  rw [cmul hy.w hy.w]
  simp only [Option.bind_some]
  rw [cmul hx.w (lt_mod _).w]
  simp only [Option.bind_some]
  rw [cmul (by decide) (lt_mod _).w]
  simp only [Option.bind_some]
  rw [cmul hzl.w hzl.w]
  simp only [Option.bind_some]
  rw [cmul hx.w hx.w]
  simp only [Option.bind_some]
  rw [cmul (by decide) (lt_mod _).w]
  simp only [Option.bind_some]
  rw [cmul (lt_mod _).w (lt_mod _).w]
  simp only [Option.bind_some]
  rw [cadd (lt_mod _).w (lt_mod _).w]
  simp only [Option.bind_some]
  rw [cmul (lt_mod _).w (lt_mod _).w]
  simp only [Option.bind_some]
  rw [cadd (lt_mod _).w (lt_mod _).w]
  simp only [Option.bind_some]
  rw [csub (lt_mod _).w (lt_mod _).w]
  simp only [Option.bind_some]
  rw [csub (lt_mod _).w (lt_mod _).w]
  simp only [Option.bind_some]
  rw [cmul (lt_mod _).w (lt_mod _).w]
  simp only [Option.bind_some]
  rw [cmul (lt_mod _).w (lt_mod _).w]
  simp only [Option.bind_some]
  rw [cmul (by decide) (lt_mod _).w]
  simp only [Option.bind_some]
  rw [csub (lt_mod _).w (lt_mod _).w]
  simp only [Option.bind_some]
  rw [cmul hy.w hzl.w]
  simp only [Option.bind_some]
  rw [cmul (by decide) (lt_mod _).w]
  simp only [Option.bind_some]
  refine ⟨_, _, _, rfl, lt_mod _, lt_mod _, lt_mod _, sumP_pt ho ho, ?_⟩
  have kz := K_ne hzl hz
  have ez : K (2 * (y * z % 1152921505151057923) % 1152921505151057923) = 2 * (K Y * (K z * K z * K z) * K z) := by
    simp only [K_emod, K_mul, K_2, ey]
  by_cases hw : X = X ∧ (Y + Y) % 1152921505151057923 = 0
  · left
    have y0 : K Y + K Y = 0 := by rw [← K_add, ← K_emod, hw.2, K_0]
    constructor
    · rw [← K_zero_iff (lt_mod _), ez]
      exact Obol.twice_zero _ _ y0
    · rw [sumP_fin, if_pos hw]
  · right
    obtain ⟨i, hi, hl⟩ : ∃ i, i * (K Y + K Y) = 1 ∧ K (lam (false, X, Y) (false, X, Y)) = (3 * (K X * K X) + 1) * i := by
      rcases lam_K ho ho hw with ⟨-, -, i, hi, hl⟩ | ⟨e, -⟩
      · exact ⟨i, hi, hl⟩
      · exact absurd rfl e
    obtain ⟨h1, h2⟩ := line_K (ax := X) (ay := Y) (bx := X) (bY := Y) (l := lam (false, X, Y) (false, X, Y))
    have es : sumP (false, X, Y) (false, X, Y) = lineP (lam (false, X, Y) (false, X, Y)) (false, X, Y) (false, X, Y) := by
      rw [sumP_fin, if_neg hw]
    constructor
    · rw [Ne, ← K_zero_iff (lt_mod _), ez]
      exact Obol.twice_nonzero Obol.prime_P _ _ i hi kz
    · refine ⟨_, _, es, ?_, ?_⟩
      · have h1' : K ((lam (false, X, Y) (false, X, Y) * lam (false, X, Y) (false, X, Y) - X - X) % 1152921505151057923) = _ := h1
        simp only
        rw [h1', ez]
        simp only [K_emod, K_sub, K_add, K_mul, K_3, K_4, ex, ey]
        exact Obol.twice_x _ _ _ _ i hi hl
      · have h2' : K ((lam (false, X, Y) (false, X, Y) * (X - (lam (false, X, Y) (false, X, Y) * lam (false, X, Y) (false, X, Y) - X - X) % 1152921505151057923) - Y) % 1152921505151057923) = _ := h2
        simp only
        rw [h2', ez]
        simp only [K_emod, K_sub, K_add, K_mul, K_3, K_4, K_8, ex, ey]
        exact Obol.twice_y _ _ _ _ i _ hi hl (Obol.twice_x _ _ _ _ i hi hl)

theorem more_spec {x y z : Int} {o : Bool × Int × Int} (h : Rep x y z o) {bx bY : Int} (hb : Pt (false, bx, bY)) (k : Nat) :
    ∃ x' y' z', PCur.curve_more.f (k + 1) x y z false bx bY = some (x', y', z') ∧ Rep x' y' z' (sumP o (false, bx, bY)) := by
  have h0 := h
  obtain ⟨hx, hy, hzl, ho, his⟩ := h
  obtain ⟨bx1, by1, bc⟩ := hb.fin
  unfold PCur.curve_more.f
  rcases his with ⟨z0, rfl⟩ | ⟨z0, X, Y, rfl, ex, ey⟩
  · rw [if_pos z0]
    refine ⟨_, _, _, rfl, bx1, by1, ⟨by decide, by decide⟩, sumP_pt ho hb, ?_⟩
    right
    refine ⟨by decide, bx, bY, rfl, ?_, ?_⟩
    · rw [K_1]; exact Obol.one_two _
    · rw [K_1]; exact Obol.one_three _
  rw [if_neg z0]
  have kz := K_ne hzl z0
  obtain ⟨X1, Y1, Xc⟩ := ho.fin
  rw [cmul hzl.w hzl.w]
  simp only [Option.bind_some]
  rw [cmul bx1.w (lt_mod _).w]
  simp only [Option.bind_some]
  rw [csub (lt_mod _).w hx.w]
  simp only [Option.bind_some]
  rw [cmul (lt_mod _).w hzl.w]
  simp only [Option.bind_some]
  rw [cmul by1.w (lt_mod _).w]
  simp only [Option.bind_some]
  rw [csub (lt_mod _).w hy.w]
  simp only [Option.bind_some]
  have eh : K ((bx * (z * z % 1152921505151057923) % 1152921505151057923 - x) % 1152921505151057923) = K bx * (K z * K z) - K X * (K z * K z) := by
    simp only [K_emod, K_sub, K_mul, ex]
  have er : K ((bY * (z * z % 1152921505151057923 * z % 1152921505151057923) % 1152921505151057923 - y) % 1152921505151057923) = K bY * (K z * K z * K z) - K Y * (K z * K z * K z) := by
    simp only [K_emod, K_sub, K_mul, ey]
  have hh1 := lt_mod (bx * (z * z % 1152921505151057923) % 1152921505151057923 - x)
  have hr1 := lt_mod (bY * (z * z % 1152921505151057923 * z % 1152921505151057923) % 1152921505151057923 - y)
  generalize (bx * (z * z % 1152921505151057923) % 1152921505151057923 - x) % 1152921505151057923 = hh at *
  generalize (bY * (z * z % 1152921505151057923 * z % 1152921505151057923) % 1152921505151057923 - y) % 1152921505151057923 = rr at *
  have hh0 : hh = 0 ↔ bx = X := by
    rw [← K_zero_iff hh1, eh]
    constructor
    · intro e; exact K_inj bx1 X1 (Obol.scale_two Obol.prime_P kz e)
    · rintro rfl; exact Obol.self_sub _
  have rr0 : rr = 0 ↔ bY = Y := by
    rw [← K_zero_iff hr1, er]
    constructor
    · intro e; exact K_inj by1 Y1 (Obol.scale_three Obol.prime_P kz e)
    · rintro rfl; exact Obol.self_sub _
  -- where they are one point
  by_cases same : hh = 0 ∧ rr = 0
  · obtain ⟨e1, e2⟩ := same
    rw [if_pos e1]
    have r1 : (rr == 0) = true := by rw [e2]; rfl
    rw [r1, PCur.curve_more.j0, if_pos rfl]
    obtain ⟨x', y', z', ht, hrep⟩ := twice_spec h0 z0
    rw [ht]
    refine ⟨x', y', z', rfl, ?_⟩
    rw [hh0.1 e1, rr0.1 e2]; exact hrep
  · have hj : (if hh = 0 then PCur.curve_more.j0 (k + 1) hh rr (rr == 0) x y z else PCur.curve_more.j0 (k + 1) hh rr false x y z) = PCur.curve_more.j0 (k + 1) hh rr false x y z := by
      by_cases e1 : hh = 0
      · have r1 : (rr == 0) = false := by
          rw [Bool.eq_false_iff]; intro e; exact same ⟨e1, by simpa using e⟩
        rw [if_pos e1, r1]
      · rw [if_neg e1]
    rw [hj, PCur.curve_more.j0]
    simp only [Bool.false_eq_true, if_false]
    rw [cmul hh1.w hh1.w]
    simp only [Option.bind_some]
    rw [cmul hh1.w (lt_mod _).w]
    simp only [Option.bind_some]
    rw [cmul hx.w (lt_mod _).w]
    simp only [Option.bind_some]
    rw [cmul hr1.w hr1.w]
    simp only [Option.bind_some]
    rw [csub (lt_mod _).w (lt_mod _).w]
    simp only [Option.bind_some]
    rw [cadd (lt_mod _).w (lt_mod _).w]
    simp only [Option.bind_some]
    rw [csub (lt_mod _).w (lt_mod _).w]
    simp only [Option.bind_some]
    rw [csub (lt_mod _).w (lt_mod _).w]
    simp only [Option.bind_some]
    rw [cmul hr1.w (lt_mod _).w]
    simp only [Option.bind_some]
    rw [cmul hy.w (lt_mod _).w]
    simp only [Option.bind_some]
    rw [csub (lt_mod _).w (lt_mod _).w]
    simp only [Option.bind_some]
    rw [cmul hh1.w hzl.w]
    simp only [Option.bind_some]
    refine ⟨_, _, _, rfl, lt_mod _, lt_mod _, lt_mod _, sumP_pt ho hb, ?_⟩
    have ez : K (hh * z % 1152921505151057923) = K hh * K z := by simp only [K_emod, K_mul]
    by_cases e1 : hh = 0
    · left
      have r0 : rr ≠ 0 := fun e => same ⟨e1, e⟩
      have hX := hh0.1 e1
      subst hX
      constructor
      · rw [← K_zero_iff (lt_mod _), ez, e1, K_0]; exact Obol.zero_mul' _
      · rw [sumP_fin, if_pos]
        refine ⟨rfl, ?_⟩
        rcases Obol.y_cases Obol.prime_P Xc bc with h | h
        · exact absurd (rr0.2 (K_inj by1 Y1 h.symm)) r0
        · have : K (Y + bY) = K 0 := by rw [K_add, K_0]; exact h
          rw [K_iff.1 this]; rfl
    · right
      have kh := K_ne hh1 e1
      have hX : ¬ X = bx := fun e => e1 (hh0.2 e.symm)
      have hw : ¬ (X = bx ∧ (Y + bY) % 1152921505151057923 = 0) := fun e => hX e.1
      rcases lam_K ho hb hw with ⟨e, -⟩ | ⟨-, i, hi, hl⟩
      · exact absurd e hX
      obtain ⟨h1, h2⟩ := line_K (ax := X) (ay := Y) (bx := bx) (bY := bY) (l := lam (false, X, Y) (false, bx, bY))
      have es : sumP (false, X, Y) (false, bx, bY) = lineP (lam (false, X, Y) (false, bx, bY)) (false, X, Y) (false, bx, bY) := by
        rw [sumP_fin, if_neg hw]
      constructor
      · rw [Ne, ← K_zero_iff (lt_mod _), ez]
        exact Obol.fin_mul_ne_zero Obol.prime_P kh kz
      · refine ⟨_, _, es, ?_, ?_⟩
        · have h1' : K ((lam (false, X, Y) (false, bx, bY) * lam (false, X, Y) (false, bx, bY) - X - bx) % 1152921505151057923) = _ := h1
          simp only
          rw [h1', ez]
          simp only [K_emod, K_sub, K_add, K_mul, ex]
          exact Obol.more_x _ _ _ _ i _ _ hi hl _ _ _ eh er rfl
        · have h2' : K ((lam (false, X, Y) (false, bx, bY) * (X - (lam (false, X, Y) (false, bx, bY) * lam (false, X, Y) (false, bx, bY) - X - bx) % 1152921505151057923) - Y) % 1152921505151057923) = _ := h2
          simp only
          rw [h2', ez]
          simp only [K_emod, K_sub, K_add, K_mul, ex, ey]
          exact Obol.more_y _ _ _ _ i _ _ _ hi hl _ _ _ eh er rfl (Obol.more_x _ _ _ _ i _ _ hi hl _ _ _ eh er rfl)

theorem mul_fin {x y z X Y i : Int} (hx : lt x) (hy : lt y) (X1 : lt X) (Y1 : lt Y) (ex : K x = K X * (K z * K z)) (ey : K y = K Y * (K z * K z * K z))
    (hi : K i * K z = 1) (il : lt i) (hc : modular_Inv.f 1152921505151057923 z = some (i, none)) (k : Nat) (n : Int) (b : Bool) (bx bY : Int) :
    PCur.curve_Mul.l0 (k + 1) n (-1) b bx bY x y z = some (false, X, Y) := by
  rw [PCur.curve_Mul.l0, if_neg (by decide), hc]
  simp only [Option.bind_some, Option.isNone_none, if_true]
  rw [cmul il.w il.w]
  simp only [Option.bind_some]
  rw [cmul hx.w (lt_mod _).w]
  simp only [Option.bind_some]
  rw [cmul (lt_mod _).w il.w]
  simp only [Option.bind_some]
  rw [cmul hy.w (lt_mod _).w]
  simp only [Option.bind_some]
  have e1 : x * (i * i % 1152921505151057923) % 1152921505151057923 = X := by
    refine K_inj (lt_mod _) X1 ?_
    simp only [K_emod, K_mul, ex]
    exact Obol.unscale _ _ _ hi
  have e2 : y * (i * i % 1152921505151057923 * i % 1152921505151057923) % 1152921505151057923 = Y := by
    refine K_inj (lt_mod _) Y1 ?_
    simp only [K_emod, K_mul, ey]
    exact Obol.unscale3 _ _ _ hi
  rw [e1, e2]

theorem mul_end {x y z : Int} {o : Bool × Int × Int} (h : Rep x y z o) (k : Nat) (n : Int) (b : Bool) (bx bY : Int) :
    PCur.curve_Mul.l0 (k + 1) n (-1) b bx bY x y z = some o := by
  obtain ⟨hx, hy, hzl, ho, his⟩ := h
  rcases his with ⟨z0, rfl⟩ | ⟨z0, X, Y, rfl, ex, ey⟩
  · rw [PCur.curve_Mul.l0, if_neg (by decide), z0, cinv0]
    rfl
  · obtain ⟨hi, il⟩ := K_inv hzl z0
    obtain ⟨X1, Y1, -⟩ := ho.fin
    exact mul_fin hx hy X1 Y1 ex ey hi il (cinv hzl z0) k n b bx bY

theorem sumP_inf : sumP (true, 0, 0) (true, 0, 0) = (true, 0, 0) := rfl

theorem mul_loop {bx bY k : Int} (hb : Pt (false, bx, bY)) (hk : w64 k) : ∀ (n : Nat) (x y z : Int) (o : Bool × Int × Int), n ≤ 64 → Rep x y z o →
    PCur.curve_Mul.l0 (n + 2) k ((n : Int) - 1) false bx bY x y z = some (tms (false, bx, bY) k n o) := by
  intro n
  induction n with
  | zero => intro x y z o _ h; exact mul_end h 1 k false bx bY
  | succ n ih =>
    intro x y z o hn h
    have hi : ((n + 1 : Nat) : Int) - 1 = (n : Int) := by omega
    have hi2 : wrap64 ((n : Int) - 1) = (n : Int) - 1 := wrap64_in (by omega) (by omega)
    have n0 : (n : Int) ≥ 0 := by omega
    have n1 : (0 : Int) ≤ (n : Int) := by omega
    have hb2 := bit_at hk (n := (n : Int)) (by omega)
    rw [Int.toNat_natCast] at hb2
    rw [hi]
    show PCur.curve_Mul.l0 (n + 2 + 1) k n false bx bY x y z = _
    rw [PCur.curve_Mul.l0, if_pos n0, hi2]
    -- the doubling
    have dbl : ∃ x' y' z', Rep x' y' z' (sumP o o) ∧
        ((if z > 0 then (PCur.curve_twice.f x y z) else some (x, y, z)) = some (x', y', z')) := by
      by_cases hz : z > 0
      · obtain ⟨x', y', z', ht, hr⟩ := twice_spec h (by omega)
        exact ⟨x', y', z', hr, by rw [if_pos hz]; exact ht⟩
      · refine ⟨x, y, z, ?_, by rw [if_neg hz]⟩
        have z0 : z = 0 := by have := h.lz.1; omega
        rcases h.is with ⟨-, e⟩ | ⟨e, -⟩
        · rw [e, sumP_inf, ← e]; exact h
        · exact absurd z0 e
    obtain ⟨x', y', z', hr, hd⟩ := dbl
    have rest : (if 0 ≤ (n : Int) then (if bits .and .u64 (shr .u64 k n) 1 = 1 then ((PCur.curve_more.f (n + 2) x' y' z' false bx bY).bind fun bt212 => (PCur.curve_Mul.l0 (n + 2) k ((n : Int) - 1) false bx bY bt212.1 bt212.2.1 bt212.2.2)) else (PCur.curve_Mul.l0 (n + 2) k ((n : Int) - 1) false bx bY x' y' z')) else none)
        = some (tms (false, bx, bY) k (n + 1) o) := by
      rw [if_pos n1, hb2]
      by_cases b : k / 2 ^ n % 2 = 1
      · rw [if_pos b]
        obtain ⟨x2, y2, z2, hm, hr2⟩ := more_spec hr hb (n + 1)
        rw [hm]
        simp only [Option.bind_some]
        rw [ih _ _ _ _ (by omega) hr2]
        rw [tms_succ]; unfold stepT; rw [if_pos b]
      · rw [if_neg b, ih _ _ _ _ (by omega) hr]
        rw [tms_succ]; unfold stepT; rw [if_neg b]
    by_cases hz : z > 0
    · rw [if_pos hz] at hd ⊢
      rw [hd]
      simp only [Option.bind_some]
      exact rest
    · rw [if_neg hz] at hd ⊢
      simp only [Option.some.injEq, Prod.mk.injEq] at hd
      obtain ⟨rfl, rfl, rfl⟩ := hd
      exact rest

end Go.Proofs.Ytibmidoepeghpaa.G
