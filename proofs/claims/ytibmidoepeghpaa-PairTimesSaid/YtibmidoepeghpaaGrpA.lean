/- The curve's group law over a prime field, without any program. -/
import Derived.Test.YtibmidoepeghpaaAlg
namespace Obol

/-! ### the curve's points are a group: by the curve u u + v v = 1 - u u v v, whose sums have no exceptions -/
section
variable {n : Nat} [NeZero n]

/-- the inverse, as a power -/
def finv (x : Fin n) : Fin n := of n ((x.val ^ (n - 2) : Nat) : Int)

theorem finv_mul (hp : IsPrime n) {x : Fin n} (hx : x ≠ 0) : x * finv x = 1 := by
  have h2 := hp.1
  apply Fin.ext
  have hv : (finv x).val = x.val ^ (n - 2) % n := by
    have := of_val (n := n) ((x.val ^ (n - 2) : Nat) : Int)
    exact_mod_cast this
  rw [Fin.val_mul, hv]
  have hx' : ¬ n ∣ x.val := fun hd => hx (Fin.ext (by have := Nat.eq_zero_of_dvd_of_lt hd x.isLt; simpa using this))
  have hf := fermat hp hx'
  show _ = 1 % n
  rw [Nat.mod_eq_of_lt (show 1 < n by omega), ← hf, Nat.mul_mod, Nat.mod_mod, ← Nat.mul_mod, Nat.mul_comm, ← Nat.pow_succ]
  congr 2; omega

/-- what is asked of the prime: -1 and 2 have no root, -2 has one (it is s) -/
structure Good (n : Nat) [NeZero n] (s : Fin n) : Prop where
  prime : IsPrime n
  two : (2 : Fin n) ≠ 0
  noI : ∀ x : Fin n, x * x + 1 ≠ 0
  no2 : ∀ x : Fin n, x * x ≠ 2
  root : s * s = -2

abbrev EPt (n : Nat) := Option (Fin n × Fin n)
def onE : EPt n → Prop
  | none => True
  | some (x, y) => y * y = x * x * x + x

def lineE (l x1 y1 x2 : Fin n) : EPt n := some (l * l - x1 - x2, l * (x1 - (l * l - x1 - x2)) - y1)

def addE : EPt n → EPt n → EPt n
  | none, b => b
  | some a, none => some a
  | some (x1, y1), some (x2, y2) =>
    if x1 = x2 then (if y1 + y2 = 0 then none else lineE ((3 * (x1 * x1) + 1) * finv (y1 + y1)) x1 y1 x2)
    else lineE ((y2 - y1) * finv (x2 - x1)) x1 y1 x2

def phi (s : Fin n) : EPt n → Fin n × Fin n
  | none => (0, 1)
  | some (x, y) => (s * y * finv (x * x + 1), (x + 1) * finv (x - 1))

def addC (a b : Fin n × Fin n) : Fin n × Fin n :=
  ((a.1 * b.2 + a.2 * b.1) * finv (1 - a.1 * b.1 * a.2 * b.2), (a.2 * b.2 - a.1 * b.1) * finv (1 + a.1 * b.1 * a.2 * b.2))
def onC (a : Fin n × Fin n) : Prop := a.1 * a.1 + a.2 * a.2 = 1 - a.1 * a.1 * a.2 * a.2

theorem mul_finv_eq (hp : IsPrime n) {a b d : Fin n} (hd : d ≠ 0) (h : a = b * d) : a * finv d = b := by
  have := finv_mul hp hd
  grind

theorem eq_of_mul (hp : IsPrime n) {a b d : Fin n} (hd : d ≠ 0) (h : a * d = b * d) : a = b :=
  fin_cancel hp hd (by grind)

section
variable {s : Fin n}

theorem Good.x1 (g : Good n s) {x y : Fin n} (h : y * y = x * x * x + x) : x - 1 ≠ 0 := by
  intro e
  apply g.no2 y
  have : x = 1 := by grind
  subst this
  grind

/-- a sum of two squares is 0 only of 0s -/
theorem Good.squares (g : Good n s) {x y : Fin n} (h : x * x + y * y = 0) : x = 0 ∧ y = 0 := by
  by_cases hy : y = 0
  · subst hy
    refine ⟨?_, rfl⟩
    have : x * x = 0 := by grind
    rcases fin_mul_eq_zero g.prime this with h | h <;> exact h
  · exfalso
    have hi := finv_mul g.prime hy
    apply g.noI (x * finv y)
    grind

/-- the sums of the other curve have no 0 below -/
theorem Good.complete (g : Good n s) {a b : Fin n × Fin n} (ha : onC a) (hb : onC b) (e : Fin n) (he : e * e = 1) (h : a.1 * b.1 * a.2 * b.2 = e) : False := by
  obtain ⟨u1, v1⟩ := a
  obtain ⟨u2, v2⟩ := b
  unfold onC at ha hb
  simp only at ha hb h
  have k1 : (u1 - e * v1) * (u1 - e * v1) + (u1 * v1 * (u2 + v2)) * (u1 * v1 * (u2 + v2)) = 0 := by grind
  have k2 : (u1 + e * v1) * (u1 + e * v1) + (u1 * v1 * (u2 - v2)) * (u1 * v1 * (u2 - v2)) = 0 := by grind
  obtain ⟨a1, -⟩ := g.squares k1
  obtain ⟨a2, -⟩ := g.squares k2
  have : 2 * u1 = 0 := by grind
  rcases fin_mul_eq_zero g.prime this with h0 | h0
  · exact g.two h0
  · subst h0
    have e0 : e = 0 := by grind
    subst e0
    have one0 : (1 : Fin n) = 0 := by grind
    apply g.noI 0
    grind

theorem Good.down1 (g : Good n s) {a b : Fin n × Fin n} (ha : onC a) (hb : onC b) : 1 - a.1 * b.1 * a.2 * b.2 ≠ 0 := fun h => g.complete ha hb 1 (by grind) (by grind)
theorem Good.down2 (g : Good n s) {a b : Fin n × Fin n} (ha : onC a) (hb : onC b) : 1 + a.1 * b.1 * a.2 * b.2 ≠ 0 := fun h => g.complete ha hb (-1) (by grind) (by grind)

theorem closedC (u1 v1 u2 v2 A1 A2 B1 B2 : Fin n) (h1 : u1 * u1 + v1 * v1 = 1 - u1 * u1 * v1 * v1) (h2 : u2 * u2 + v2 * v2 = 1 - u2 * u2 * v2 * v2)
    (hA1 : A1 = u1 * v2 + v1 * u2) (hA2 : A2 = v1 * v2 - u1 * u2) (hB1 : B1 = 1 - u1 * u2 * v1 * v2) (hB2 : B2 = 1 + u1 * u2 * v1 * v2) :
    A1 * A1 * (B2 * B2) + A2 * A2 * (B1 * B1) = B1 * B1 * (B2 * B2) - A1 * A1 * (A2 * A2) := by
  subst hA1 hA2 hB1 hB2; grind (ringSteps := 10000000) (splits := 0)

theorem Good.addC_on (g : Good n s) {a b : Fin n × Fin n} (ha : onC a) (hb : onC b) : onC (addC a b) := by
  have d1 := finv_mul g.prime (g.down1 ha hb)
  have d2 := finv_mul g.prime (g.down2 ha hb)
  have k := closedC a.1 a.2 b.1 b.2 _ _ _ _ ha hb rfl rfl rfl rfl
  unfold onC addC
  simp only
  generalize 1 - a.1 * b.1 * a.2 * b.2 = B1 at *
  generalize 1 + a.1 * b.1 * a.2 * b.2 = B2 at *
  generalize a.1 * b.2 + a.2 * b.1 = A1 at *
  generalize a.2 * b.2 - a.1 * b.1 = A2 at *
  generalize finv B1 = i1 at *
  generalize finv B2 = i2 at *
  have e1 : A1 * i1 * (A1 * i1) + A2 * i2 * (A2 * i2) = (A1 * A1 * (B2 * B2) + A2 * A2 * (B1 * B1)) * (i1 * i1 * (i2 * i2)) := by
    have : i1 * i1 * (B1 * B1) = 1 := by grind
    have : i2 * i2 * (B2 * B2) = 1 := by grind
    grind
  have e2 : 1 - A1 * i1 * (A1 * i1) * (A2 * i2) * (A2 * i2) = (B1 * B1 * (B2 * B2) - A1 * A1 * (A2 * A2)) * (i1 * i1 * (i2 * i2)) := by
    have : i1 * i1 * (B1 * B1) = 1 := by grind
    have : i2 * i2 * (B2 * B2) = 1 := by grind
    grind
  rw [e1, e2, k]

theorem assocu (u1 v1 u2 v2 u3 v3 : Fin n) (h1 : u1 * u1 + v1 * v1 = 1 - u1 * u1 * v1 * v1) (h2 : u2 * u2 + v2 * v2 = 1 - u2 * u2 * v2 * v2) (h3 : u3 * u3 + v3 * v3 = 1 - u3 * u3 * v3 * v3)
    (A1 A2 B1 B2 C1 C2 D1 D2 : Fin n) (hA1 : A1 = u1 * v2 + v1 * u2) (hA2 : A2 = v1 * v2 - u1 * u2) (hB1 : B1 = 1 - u1 * u2 * v1 * v2) (hB2 : B2 = 1 + u1 * u2 * v1 * v2)
    (hC1 : C1 = u2 * v3 + v2 * u3) (hC2 : C2 = v2 * v3 - u2 * u3) (hD1 : D1 = 1 - u2 * u3 * v2 * v3) (hD2 : D2 = 1 + u2 * u3 * v2 * v3) :
    (A1 * B2 * v3 + A2 * B1 * u3) * (D1 * D2 - u1 * v1 * C1 * C2) = (u1 * C2 * D1 + v1 * C1 * D2) * (B1 * B2 - A1 * A2 * u3 * v3) := by
  subst hA1 hA2 hB1 hB2 hC1 hC2 hD1 hD2; grind (ringSteps := 10000000) (splits := 0)
theorem assocv (u1 v1 u2 v2 u3 v3 : Fin n) (h1 : u1 * u1 + v1 * v1 = 1 - u1 * u1 * v1 * v1) (h2 : u2 * u2 + v2 * v2 = 1 - u2 * u2 * v2 * v2) (h3 : u3 * u3 + v3 * v3 = 1 - u3 * u3 * v3 * v3)
    (A1 A2 B1 B2 C1 C2 D1 D2 : Fin n) (hA1 : A1 = u1 * v2 + v1 * u2) (hA2 : A2 = v1 * v2 - u1 * u2) (hB1 : B1 = 1 - u1 * u2 * v1 * v2) (hB2 : B2 = 1 + u1 * u2 * v1 * v2)
    (hC1 : C1 = u2 * v3 + v2 * u3) (hC2 : C2 = v2 * v3 - u2 * u3) (hD1 : D1 = 1 - u2 * u3 * v2 * v3) (hD2 : D2 = 1 + u2 * u3 * v2 * v3) :
    (A2 * B1 * v3 - A1 * B2 * u3) * (D1 * D2 + u1 * v1 * C1 * C2) = (v1 * C2 * D1 - u1 * C1 * D2) * (B1 * B2 + A1 * A2 * u3 * v3) := by
  subst hA1 hA2 hB1 hB2 hC1 hC2 hD1 hD2; grind (ringSteps := 10000000) (splits := 0)

/-- a fraction of fractions -/
theorem frac_eq (hp : IsPrime n) {X Y x y d e : Fin n} (hd : d ≠ 0) (he : e ≠ 0) (k : X * y = Y * x) (hx : x = d * e) (_hy : y ≠ 0) (z : Fin n) (hz : z * y = Y) : X * finv d * finv e = z := by
  have h1 := finv_mul hp hd
  have h2 := finv_mul hp he
  apply eq_of_mul hp _hy
  grind

theorem addC_comm (a b : Fin n × Fin n) : addC a b = addC b a := by
  unfold addC
  have e1 : a.1 * b.1 * a.2 * b.2 = b.1 * a.1 * b.2 * a.2 := by grind
  have e2 : a.1 * b.2 + a.2 * b.1 = b.1 * a.2 + b.2 * a.1 := by grind
  have e3 : a.2 * b.2 - a.1 * b.1 = b.2 * a.2 - b.1 * a.1 := by grind
  rw [e1, e2, e3]

theorem div_eq_div (hp : IsPrime n) {a b c d : Fin n} (hb : b ≠ 0) (hd : d ≠ 0) (h : a * d = c * b) : a * finv b = c * finv d := by
  have h1 := finv_mul hp hb
  have h2 := finv_mul hp hd
  apply eq_of_mul hp (fin_mul_ne_zero hp hb hd)
  grind

theorem fr1 {A1 A2 B1 B2 i1 i2 U V : Fin n} (d1 : B1 * i1 = 1) (d2 : B2 * i2 = 1) (p1 : U = A1 * i1) (p2 : V = A2 * i2) (x y : Fin n) : U * x + V * y = (A1 * B2 * x + A2 * B1 * y) * (i1 * i2) := by subst p1 p2; grind
theorem fr2 {A1 A2 B1 B2 i1 i2 U V : Fin n} (d1 : B1 * i1 = 1) (d2 : B2 * i2 = 1) (p1 : U = A1 * i1) (p2 : V = A2 * i2) (x y : Fin n) : V * x - U * y = (A2 * B1 * x - A1 * B2 * y) * (i1 * i2) := by subst p1 p2; grind
theorem fr3 {A1 A2 B1 B2 i1 i2 U V : Fin n} (d1 : B1 * i1 = 1) (d2 : B2 * i2 = 1) (p1 : U = A1 * i1) (p2 : V = A2 * i2) (x y : Fin n) : 1 - U * x * V * y = (B1 * B2 - A1 * A2 * x * y) * (i1 * i2) := by subst p1 p2; grind
theorem fr4 {A1 A2 B1 B2 i1 i2 U V : Fin n} (d1 : B1 * i1 = 1) (d2 : B2 * i2 = 1) (p1 : U = A1 * i1) (p2 : V = A2 * i2) (x y : Fin n) : 1 + U * x * V * y = (B1 * B2 + A1 * A2 * x * y) * (i1 * i2) := by subst p1 p2; grind
theorem fr5 {A1 A2 B1 B2 i1 i2 U V : Fin n} (d1 : B1 * i1 = 1) (d2 : B2 * i2 = 1) (p1 : U = A1 * i1) (p2 : V = A2 * i2) (x y : Fin n) : x * V + y * U = (x * A2 * B1 + y * A1 * B2) * (i1 * i2) := by subst p1 p2; grind
theorem fr6 {A1 A2 B1 B2 i1 i2 U V : Fin n} (d1 : B1 * i1 = 1) (d2 : B2 * i2 = 1) (p1 : U = A1 * i1) (p2 : V = A2 * i2) (x y : Fin n) : y * V - x * U = (y * A2 * B1 - x * A1 * B2) * (i1 * i2) := by subst p1 p2; grind
theorem fr7 {A1 A2 B1 B2 i1 i2 U V : Fin n} (d1 : B1 * i1 = 1) (d2 : B2 * i2 = 1) (p1 : U = A1 * i1) (p2 : V = A2 * i2) (x y : Fin n) : 1 - x * U * y * V = (B1 * B2 - x * y * A1 * A2) * (i1 * i2) := by subst p1 p2; grind
theorem fr8 {A1 A2 B1 B2 i1 i2 U V : Fin n} (d1 : B1 * i1 = 1) (d2 : B2 * i2 = 1) (p1 : U = A1 * i1) (p2 : V = A2 * i2) (x y : Fin n) : 1 + x * U * y * V = (B1 * B2 + x * y * A1 * A2) * (i1 * i2) := by subst p1 p2; grind
theorem cross {z1 z2 z3 z4 : Fin n} (h : z1 * z2 = z3 * z4) (i j : Fin n) : z1 * i * (z2 * j) = z3 * j * (z4 * i) := by grind

theorem Good.addC_assoc (g : Good n s) {a b c : Fin n × Fin n} (ha : onC a) (hb : onC b) (hc : onC c) : addC (addC a b) c = addC a (addC b c) := by
  have x1 := g.down1 (g.addC_on ha hb) hc
  have x2 := g.down2 (g.addC_on ha hb) hc
  have y1 := g.down1 ha (g.addC_on hb hc)
  have y2 := g.down2 ha (g.addC_on hb hc)
  have d1 := finv_mul g.prime (g.down1 ha hb)
  have d2 := finv_mul g.prime (g.down2 ha hb)
  have f1 := finv_mul g.prime (g.down1 hb hc)
  have f2 := finv_mul g.prime (g.down2 hb hc)
  have ku := assocu a.1 a.2 b.1 b.2 c.1 c.2 ha hb hc _ _ _ _ _ _ _ _ rfl rfl rfl rfl rfl rfl rfl rfl
  have kv := assocv a.1 a.2 b.1 b.2 c.1 c.2 ha hb hc _ _ _ _ _ _ _ _ rfl rfl rfl rfl rfl rfl rfl rfl
  have hL : addC (addC a b) c = (((addC a b).1 * c.2 + (addC a b).2 * c.1) * finv (1 - (addC a b).1 * c.1 * (addC a b).2 * c.2), ((addC a b).2 * c.2 - (addC a b).1 * c.1) * finv (1 + (addC a b).1 * c.1 * (addC a b).2 * c.2)) := rfl
  have hR : addC a (addC b c) = ((a.1 * (addC b c).2 + a.2 * (addC b c).1) * finv (1 - a.1 * (addC b c).1 * a.2 * (addC b c).2), (a.2 * (addC b c).2 - a.1 * (addC b c).1) * finv (1 + a.1 * (addC b c).1 * a.2 * (addC b c).2)) := rfl
  rw [hL, hR]
  have p1 : (addC a b).1 = (a.1 * b.2 + a.2 * b.1) * finv (1 - a.1 * b.1 * a.2 * b.2) := rfl
  have p2 : (addC a b).2 = (a.2 * b.2 - a.1 * b.1) * finv (1 + a.1 * b.1 * a.2 * b.2) := rfl
  have q1 : (addC b c).1 = (b.1 * c.2 + b.2 * c.1) * finv (1 - b.1 * c.1 * b.2 * c.2) := rfl
  have q2 : (addC b c).2 = (b.2 * c.2 - b.1 * c.1) * finv (1 + b.1 * c.1 * b.2 * c.2) := rfl
  have cm : ∀ x y z w : Fin n, 1 - x * y * z * w = 1 - x * z * y * w ∧ 1 + x * y * z * w = 1 + x * z * y * w := fun x y z w => ⟨by grind, by grind⟩
  rw [(cm a.1 b.1 a.2 b.2).1] at d1 p1
  rw [(cm a.1 b.1 a.2 b.2).2] at d2 p2
  rw [(cm b.1 c.1 b.2 c.2).1] at f1 q1
  rw [(cm b.1 c.1 b.2 c.2).2] at f2 q2
  rw [(cm a.1 a.2 b.1 b.2).1] at d1 p1
  rw [(cm a.1 a.2 b.1 b.2).2] at d2 p2
  rw [(cm b.1 b.2 c.1 c.2).1] at f1 q1
  rw [(cm b.1 b.2 c.1 c.2).2] at f2 q2
  refine Prod.ext ?_ ?_
  · refine div_eq_div g.prime x1 y1 ?_
    rw [fr1 d1 d2 p1 p2, fr7 f1 f2 q1 q2, fr5 f1 f2 q1 q2, fr3 d1 d2 p1 p2]
    exact cross ku _ _
  · refine div_eq_div g.prime x2 y2 ?_
    rw [fr2 d1 d2 p1 p2, fr8 f1 f2 q1 q2, fr6 f1 f2 q1 q2, fr4 d1 d2 p1 p2]
    exact cross kv _ _

end
end
end Obol

namespace Obol
section
variable {n : Nat} [NeZero n] {s : Fin n}

theorem u3poly (x1 y1 x2 y2 D F : Fin n) (h1 : y1 * y1 = x1 * x1 * x1 + x1) (h2 : y2 * y2 = x2 * x2 * x2 + x2) (hD : D = x2 - x1) (hF : F = (y2 - y1) * (y2 - y1) - (x1 + x2) * (D * D)) :
    ((y2 - y1) * (x1 * (D * D) - F) - y1 * (D * D * D)) * D * ((x1 * x1 + 1) * (x2 * x2 + 1) * ((x1 - 1) * (x2 - 1)) + 2 * (y1 * y2) * ((x1 + 1) * (x2 + 1)))
      = (y1 * (x2 * x2 + 1) * (x2 + 1) * (x1 - 1) + (x1 + 1) * (x2 - 1) * y2 * (x1 * x1 + 1)) * (F * F + D * D * (D * D)) := by
  subst hD; subst hF; grind (ringSteps := 10000000) (splits := 0)
theorem v3poly (x1 y1 x2 y2 D F : Fin n) (h1 : y1 * y1 = x1 * x1 * x1 + x1) (h2 : y2 * y2 = x2 * x2 * x2 + x2) (hD : D = x2 - x1) (hF : F = (y2 - y1) * (y2 - y1) - (x1 + x2) * (D * D)) :
    F * ((x1 * x1 + 1) * (x2 * x2 + 1) * (x1 + x2) + 2 * (y1 * y2) * (x1 * x2 + 1)) = D * D * ((x1 * x1 + 1) * (x2 * x2 + 1) * (x1 * x2 + 1) - 2 * (y1 * y2) * (x1 + x2)) := by
  subst hD; subst hF; grind (ringSteps := 10000000) (splits := 0)
theorem tv (x y E F : Fin n) (h1 : y * y = x * x * x + x) (hE : E = y + y) (hF : F = (3 * (x * x) + 1) * (3 * (x * x) + 1) - (x + x) * (E * E)) :
    F * ((x * x + 1) * (x * x + 1) * (x + x) + 2 * (y * y) * (x * x + 1)) = E * E * ((x * x + 1) * (x * x + 1) * (x * x + 1) - 2 * (y * y) * (x + x)) := by
  subst hE; subst hF; grind (ringSteps := 10000000) (splits := 0)
theorem tu (x y E F : Fin n) (h1 : y * y = x * x * x + x) (hE : E = y + y) (hF : F = (3 * (x * x) + 1) * (3 * (x * x) + 1) - (x + x) * (E * E)) :
    ((3 * (x * x) + 1) * (x * (E * E) - F) - y * (E * E * E)) * E * ((x * x + 1) * (x * x + 1) * ((x - 1) * (x - 1)) + 2 * (y * y) * ((x + 1) * (x + 1)))
      = (y * (x * x + 1) * (x + 1) * (x - 1) + (x + 1) * (x - 1) * y * (x * x + 1)) * (F * F + E * E * (E * E)) := by
  subst hE; subst hF; grind (ringSteps := 10000000) (splits := 0)

/-- what ties the sum's numbers to the summands' -/
def Rel (x1 y1 x2 y2 x3 y3 : Fin n) : Prop :=
  x3 * ((x1 * x1 + 1) * (x2 * x2 + 1) * (x1 + x2) + 2 * (y1 * y2) * (x1 * x2 + 1)) = (x1 * x1 + 1) * (x2 * x2 + 1) * (x1 * x2 + 1) - 2 * (y1 * y2) * (x1 + x2) ∧
  y3 * ((x1 * x1 + 1) * (x2 * x2 + 1) * ((x1 - 1) * (x2 - 1)) + 2 * (y1 * y2) * ((x1 + 1) * (x2 + 1)))
      = (y1 * (x2 * x2 + 1) * (x2 + 1) * (x1 - 1) + (x1 + 1) * (x2 - 1) * y2 * (x1 * x1 + 1)) * (x3 * x3 + 1)

theorem cancel2 (D i F x3 A B : Fin n) (hi : i * D = 1) (hF : F = x3 * (D * D)) (h : F * A = D * D * B) : x3 * A = B := by
  have h1 : D * D * (i * i) = 1 := by grind
  have h2 : D * D * (x3 * A) = D * D * B := by grind
  have h3 : D * D * (i * i) * (x3 * A) = D * D * (i * i) * B := by grind
  grind
theorem cancel4 (D i F x3 y3 m A B y1 x1 : Fin n) (hi : i * D = 1) (hF : F = x3 * (D * D)) (hm : y3 = m * i * (x1 - x3) - y1) (h : (m * (x1 * (D * D) - F) - y1 * (D * D * D)) * D * A = B * (F * F + D * D * (D * D))) : y3 * A = B * (x3 * x3 + 1) := by
  have e1 : m * (x1 * (D * D) - F) - y1 * (D * D * D) = y3 * (D * D * D) := by
    subst hF hm
    have : m * i * (x1 - x3) * (D * D * D) = m * (x1 - x3) * (D * D) := by grind
    grind
  have e2 : F * F + D * D * (D * D) = (x3 * x3 + 1) * (D * D * (D * D)) := by subst hF; grind
  rw [e1, e2] at h
  have h4 : D * D * (D * D) * (i * i * (i * i)) = 1 := by
    have : D * D * (i * i) = 1 := by grind
    grind
  have h5 : y3 * A * (D * D * (D * D)) = B * (x3 * x3 + 1) * (D * D * (D * D)) := by grind
  have h6 : y3 * A * (D * D * (D * D) * (i * i * (i * i))) = B * (x3 * x3 + 1) * (D * D * (D * D) * (i * i * (i * i))) := by grind
  rw [h4] at h6
  grind

theorem chord_rel (x1 y1 x2 y2 i : Fin n) (h1 : y1 * y1 = x1 * x1 * x1 + x1) (h2 : y2 * y2 = x2 * x2 * x2 + x2) (hi : i * (x2 - x1) = 1) (x3 y3 : Fin n)
    (hx : x3 = (y2 - y1) * i * ((y2 - y1) * i) - x1 - x2) (hy : y3 = (y2 - y1) * i * (x1 - x3) - y1) : Rel x1 y1 x2 y2 x3 y3 := by
  have hF : (y2 - y1) * (y2 - y1) - (x1 + x2) * ((x2 - x1) * (x2 - x1)) = x3 * ((x2 - x1) * (x2 - x1)) := by
    generalize x2 - x1 = D at *
    subst hx
    have : i * i * (D * D) = 1 := by grind
    grind
  exact ⟨cancel2 _ i _ _ _ _ hi hF (v3poly x1 y1 x2 y2 _ _ h1 h2 rfl rfl), cancel4 _ i _ _ _ (y2 - y1) _ _ _ _ hi hF hy (u3poly x1 y1 x2 y2 _ _ h1 h2 rfl rfl)⟩

theorem tangent_rel (x y i : Fin n) (h1 : y * y = x * x * x + x) (hi : i * (y + y) = 1) (x3 y3 : Fin n)
    (hx : x3 = (3 * (x * x) + 1) * i * ((3 * (x * x) + 1) * i) - x - x) (hy : y3 = (3 * (x * x) + 1) * i * (x - x3) - y) : Rel x y x y x3 y3 := by
  have hF : (3 * (x * x) + 1) * (3 * (x * x) + 1) - (x + x) * ((y + y) * (y + y)) = x3 * ((y + y) * (y + y)) := by
    generalize y + y = E at *
    generalize 3 * (x * x) + 1 = m at *
    subst hx
    have : i * i * (E * E) = 1 := by grind
    grind
  exact ⟨cancel2 _ i _ _ _ _ hi hF (tv x y _ _ h1 rfl rfl), cancel4 _ i _ _ _ (3 * (x * x) + 1) _ _ _ _ hi hF hy (tu x y _ _ h1 rfl rfl)⟩

theorem phi_on (g : Good n s) {a : EPt n} (ha : onE a) : onC (phi s a) := by
  cases a with
  | none => unfold onC phi; grind
  | some a =>
    obtain ⟨x, y⟩ := a
    have hp := finv_mul g.prime (g.noI x)
    have hq := finv_mul g.prime (g.x1 (x := x) (y := y) ha)
    have hs := g.root
    have hc : y * y = x * x * x + x := ha
    unfold onC phi
    simp only
    generalize finv (x * x + 1) = p at *
    generalize finv (x - 1) = q at *
    have e1 : s * y * p * (s * y * p) = -2 * x * p := by
      have : y * y * p = x := by grind
      grind
    rw [e1]
    have hqq : q * q * ((x - 1) * (x - 1)) = 1 := by grind
    apply eq_of_mul g.prime (fin_mul_ne_zero g.prime (g.noI x) (fin_mul_ne_zero g.prime (g.x1 ha) (g.x1 ha)))
    clear e1 hs hc ha
    have k1 : (-2 * x * p + (x + 1) * q * ((x + 1) * q)) * ((x * x + 1) * ((x - 1) * (x - 1))) = -2 * x * ((x - 1) * (x - 1)) + (x + 1) * (x + 1) * (x * x + 1) := by grind
    have k2 : (1 - -2 * x * p * ((x + 1) * q) * ((x + 1) * q)) * ((x * x + 1) * ((x - 1) * (x - 1))) = (x * x + 1) * ((x - 1) * (x - 1)) + 2 * x * ((x + 1) * (x + 1)) := by
      have : p * (q * q) * ((x * x + 1) * ((x - 1) * (x - 1))) = 1 := by grind
      grind
    rw [k1, k2]
    clear k1 k2 hqq hp hq
    grind

theorem Good.s0 (g : Good n s) : s ≠ 0 := fun h => by
  have := g.root
  have := g.two
  subst h
  grind

theorem phi_inj (g : Good n s) {a b : EPt n} (ha : onE a) (hb : onE b) (h : phi s a = phi s b) : a = b := by
  have one : ∀ (x y : Fin n), onE (some (x, y)) → (x + 1) * finv (x - 1) ≠ 1 := by
    intro x y hc e
    have hq := finv_mul g.prime (g.x1 (x := x) (y := y) hc)
    apply g.two
    generalize finv (x - 1) = q at *
    have : (x + 1) * q * (x - 1) = x - 1 := by rw [e]; grind
    grind
  cases a with
  | none =>
    cases b with
    | none => rfl
    | some b => exact absurd (congrArg Prod.snd h).symm (one b.1 b.2 hb)
  | some a =>
    cases b with
    | none => exact absurd (congrArg Prod.snd h) (one a.1 a.2 ha)
    | some b =>
      obtain ⟨x, y⟩ := a
      obtain ⟨x', y'⟩ := b
      have hq := finv_mul g.prime (g.x1 (x := x) (y := y) ha)
      have hq' := finv_mul g.prime (g.x1 (x := x') (y := y') hb)
      have h1 : (x + 1) * finv (x - 1) = (x' + 1) * finv (x' - 1) := congrArg Prod.snd h
      have hx : x = x' := by
        have k : (x + 1) * (x' - 1) = (x' + 1) * (x - 1) := by
          generalize finv (x - 1) = q at *
          generalize finv (x' - 1) = q' at *
          have k1 : (x + 1) * q * ((x - 1) * (x' - 1)) = (x + 1) * (x' - 1) := by grind
          have k2 : (x' + 1) * q' * ((x - 1) * (x' - 1)) = (x' + 1) * (x - 1) := by grind
          rw [← k1, ← k2, h1]
        apply fin_cancel g.prime g.two
        grind
      subst hx
      have h2 : s * y * finv (x * x + 1) = s * y' * finv (x * x + 1) := congrArg Prod.fst h
      have hp := finv_mul g.prime (g.noI x)
      have : y = y' := by
        generalize finv (x * x + 1) = p at *
        apply fin_cancel g.prime g.s0
        have : s * y * p * (x * x + 1) = s * y' * p * (x * x + 1) := by rw [h2]
        grind
      rw [this]

theorem fin_dist (a b c z : Fin n) : a * (b + c) * z = a * b * z + a * c * z := by grind
theorem inv2 {a b p q : Fin n} (h1 : a * p = 1) (h2 : b * q = 1) : p * q * (a * b) = 1 := by grind
theorem le0 {y1 y2 p1 p2 : Fin n} (hs : s * s = -2) : s * y1 * p1 * (s * y2 * p2) = -2 * (y1 * y2) * (p1 * p2) := by grind
theorem le1 {X1 X2 N w p q t q1 q2 : Fin n} (m1 : p * N = 1) (m2 : q * w = 1) (hq : q = q1 * q2) : X1 * q1 * (X2 * q2) - -2 * t * p = (X1 * X2 * N + 2 * t * w) * (p * q) := by
  have e : X1 * q1 * (X2 * q2) = X1 * X2 * q := by subst hq; grind
  rw [e]; grind
theorem le2 {X1 X2 N w p q t q1 q2 : Fin n} (m1 : p * N = 1) (m2 : q * w = 1) (hq : q = q1 * q2) : 1 + -2 * t * p * (X1 * q1) * (X2 * q2) = (N * w - 2 * t * (X1 * X2)) * (p * q) := by
  have e : -2 * t * p * (X1 * q1) * (X2 * q2) = -2 * t * p * (X1 * X2 * q) := by subst hq; grind
  rw [e]
  have : p * q * (N * w) = 1 := by grind
  grind
theorem le3 {X1 X2 N w p q t q1 q2 : Fin n} (m1 : p * N = 1) (m2 : q * w = 1) (hq : q = q1 * q2) : 1 - -2 * t * p * (X1 * q1) * (X2 * q2) = (N * w + 2 * t * (X1 * X2)) * (p * q) := by
  have e : -2 * t * p * (X1 * q1) * (X2 * q2) = -2 * t * p * (X1 * X2 * q) := by subst hq; grind
  rw [e]
  have : p * q * (N * w) = 1 := by grind
  grind
theorem le4 {y X N w p1 p2 q1 q2 : Fin n} (m1 : N * p2 = 1) (m2 : w * q1 = 1) : s * y * p1 * (X * q2) = s * (y * N * X * w) * (p1 * p2 * (q1 * q2)) := by
  have : p2 * N * (q1 * w) = 1 := by grind
  grind
theorem le5 {y X N w p1 p2 q1 q2 : Fin n} (m1 : N * p1 = 1) (m2 : w * q2 = 1) : X * q1 * (s * y * p2) = s * (X * w * y * N) * (p1 * p2 * (q1 * q2)) := by
  have : p1 * N * (q2 * w) = 1 := by grind
  grind
theorem le6 {w q X Y a z : Fin n} (h : w * q = 1) (k : w * X = a * Y) : X * z = a * q * (Y * z) := by
  have : q * (w * X) = q * (a * Y) := by rw [k]
  have : X = a * q * Y := by grind
  rw [this]; grind
theorem le7 {M p X Y y z : Fin n} (h : M * p = 1) (k : y * X = Y * M) : s * Y * z = s * y * p * (X * z) := by
  have : y * X * p = Y * M * p := by rw [k]
  have : Y = y * p * X := by grind
  rw [this]; grind
theorem le8 {x1 x2 x3 t N : Fin n} (r : x3 * (N * (x1 + x2) + 2 * t * (x1 * x2 + 1)) = N * (x1 * x2 + 1) - 2 * t * (x1 + x2)) :
    (x3 - 1) * ((x1 + 1) * (x2 + 1) * N + 2 * t * ((x1 - 1) * (x2 - 1))) = (x3 + 1) * (N * ((x1 - 1) * (x2 - 1)) - 2 * t * ((x1 + 1) * (x2 + 1))) := by grind

theorem phi_hom_rel (g : Good n s) {x1 y1 x2 y2 x3 y3 : Fin n} (h1 : onE (some (x1, y1))) (h2 : onE (some (x2, y2))) (h3 : onE (some (x3, y3))) (r : Rel x1 y1 x2 y2 x3 y3) :
    phi s (some (x3, y3)) = addC (phi s (some (x1, y1))) (phi s (some (x2, y2))) := by
  obtain ⟨r1, r2⟩ := r
  have d1 := g.down1 (phi_on g h1) (phi_on g h2)
  have d2 := g.down2 (phi_on g h1) (phi_on g h2)
  have hp1 := finv_mul g.prime (g.noI x1)
  have hq1 := finv_mul g.prime (g.x1 (x := x1) (y := y1) h1)
  have hp2 := finv_mul g.prime (g.noI x2)
  have hq2 := finv_mul g.prime (g.x1 (x := x2) (y := y2) h2)
  have hp3 := finv_mul g.prime (g.noI x3)
  have hq3 := finv_mul g.prime (g.x1 (x := x3) (y := y3) h3)
  have hs := g.root
  unfold addC
  refine Prod.ext ?_ ?_
  · refine (mul_finv_eq g.prime d1 ?_).symm
    unfold phi
    simp only
    generalize finv (x1 * x1 + 1) = p1 at *
    generalize finv (x1 - 1) = q1 at *
    generalize finv (x2 * x2 + 1) = p2 at *
    generalize finv (x2 - 1) = q2 at *
    generalize finv (x3 * x3 + 1) = p3 at *
    have e : 1 - s * y1 * p1 * (s * y2 * p2) * ((x1 + 1) * q1) * ((x2 + 1) * q2) = ((x1 * x1 + 1) * (x2 * x2 + 1) * ((x1 - 1) * (x2 - 1)) + 2 * (y1 * y2) * ((x1 + 1) * (x2 + 1))) * (p1 * p2 * (q1 * q2)) := by
      rw [le0 hs]; exact le3 (inv2 hp1 hp2) (inv2 hq1 hq2) rfl
    have m1 : s * y1 * p1 * ((x2 + 1) * q2) = s * (y1 * (x2 * x2 + 1) * (x2 + 1) * (x1 - 1)) * (p1 * p2 * (q1 * q2)) := le4 hp2 hq1
    have m2 : (x1 + 1) * q1 * (s * y2 * p2) = s * ((x1 + 1) * (x2 - 1) * y2 * (x1 * x1 + 1)) * (p1 * p2 * (q1 * q2)) := le5 hp1 hq2
    rw [e, m1, m2, ← fin_dist]
    exact le7 hp3 r2
  · refine (mul_finv_eq g.prime d2 ?_).symm
    unfold phi
    simp only
    generalize finv (x1 * x1 + 1) = p1 at *
    generalize finv (x1 - 1) = q1 at *
    generalize finv (x2 * x2 + 1) = p2 at *
    generalize finv (x2 - 1) = q2 at *
    generalize finv (x3 - 1) = q3 at *
    have e : 1 + s * y1 * p1 * (s * y2 * p2) * ((x1 + 1) * q1) * ((x2 + 1) * q2) = ((x1 * x1 + 1) * (x2 * x2 + 1) * ((x1 - 1) * (x2 - 1)) - 2 * (y1 * y2) * ((x1 + 1) * (x2 + 1))) * (p1 * p2 * (q1 * q2)) := by
      rw [le0 hs]; exact le2 (inv2 hp1 hp2) (inv2 hq1 hq2) rfl
    rw [e, le0 hs, le1 (inv2 hp1 hp2) (inv2 hq1 hq2) rfl]
    exact le6 hq3 (le8 r1)

theorem addE_on (g : Good n s) {a b : EPt n} (ha : onE a) (hb : onE b) : onE (addE a b) := by
  cases a with
  | none => exact hb
  | some a =>
    cases b with
    | none => exact ha
    | some b =>
      obtain ⟨x1, y1⟩ := a
      obtain ⟨x2, y2⟩ := b
      have h1 : y1 * y1 = x1 * x1 * x1 + x1 := ha
      have h2 : y2 * y2 = x2 * x2 * x2 + x2 := hb
      unfold addE
      simp only
      split
      · rename_i e
        subst e
        split
        · trivial
        · rename_i hy
          have hi := finv_mul g.prime hy
          have hyy : y1 = y2 := by
            rcases y_cases g.prime h1 h2 with e | e
            · exact e
            · exact absurd e hy
          subst hyy
          exact tangent_on x1 y1 _ (finv (y1 + y1)) h1 (by rw [← hi]; grind) rfl
      · rename_i hx
        have hi := finv_mul g.prime (x := x2 - x1) (fun e => hx (by grind))
        exact chord_on x1 y1 x2 y2 _ (finv (x2 - x1)) h1 h2 (by rw [← hi]; grind) rfl

theorem phi_hom (g : Good n s) {a b : EPt n} (ha : onE a) (hb : onE b) : phi s (addE a b) = addC (phi s a) (phi s b) := by
  have hab := addE_on g ha hb
  cases a with
  | none =>
    have : ∀ c : Fin n × Fin n, c = addC (0, 1) c := by
      intro c
      unfold addC
      have e1 : (1 : Fin n) - 0 * c.1 * 1 * c.2 = 1 := by grind
      have e2 : (1 : Fin n) + 0 * c.1 * 1 * c.2 = 1 := by grind
      have e3 := finv_mul g.prime (x := (1 : Fin n)) (fun e => g.noI 0 (by rw [e]; grind))
      simp only
      rw [e1, e2]
      generalize finv (1 : Fin n) = i at *
      exact Prod.ext (by simp only; grind) (by simp only; grind)
    exact this _
  | some a =>
    cases b with
    | none =>
      have : ∀ c : Fin n × Fin n, c = addC c (0, 1) := by
        intro c
        unfold addC
        have e1 : (1 : Fin n) - c.1 * 0 * c.2 * 1 = 1 := by grind
        have e2 : (1 : Fin n) + c.1 * 0 * c.2 * 1 = 1 := by grind
        have e3 := finv_mul g.prime (x := (1 : Fin n)) (fun e => g.noI 0 (by rw [e]; grind))
        simp only
        rw [e1, e2]
        generalize finv (1 : Fin n) = i at *
        exact Prod.ext (by simp only; grind) (by simp only; grind)
      exact this _
    | some b =>
      obtain ⟨x1, y1⟩ := a
      obtain ⟨x2, y2⟩ := b
      have h1 : y1 * y1 = x1 * x1 * x1 + x1 := ha
      have h2 : y2 * y2 = x2 * x2 * x2 + x2 := hb
      unfold addE at hab ⊢
      simp only at hab ⊢
      by_cases hx : x1 = x2
      · subst hx
        rw [if_pos rfl] at hab ⊢
        by_cases hy : y1 + y2 = 0
        · rw [if_pos hy]
          have hc := phi_on g ha
          have d2 := g.down2 (phi_on g ha) (phi_on g hb)
          have e2 : (phi s (some (x1, y2))).1 = -(phi s (some (x1, y1))).1 := by
            unfold phi
            simp only
            have : y2 = -y1 := by clear hc d2 h1 h2; grind
            rw [this]; grind
          have e3 : (phi s (some (x1, y2))).2 = (phi s (some (x1, y1))).2 := rfl
          unfold addC
          rw [e3] at d2 ⊢
          rw [e2] at d2 ⊢
          unfold onC at hc
          generalize (phi s (some (x1, y1))).1 = u at *
          generalize (phi s (some (x1, y1))).2 = v at *
          refine Prod.ext ?_ ?_
          · show (0 : Fin n) = _
            have : u * v + v * -u = 0 := by clear hc d2; grind
            rw [this]; grind
          · show (1 : Fin n) = _
            exact (mul_finv_eq g.prime d2 (by clear d2; grind)).symm
        · rw [if_neg hy] at hab ⊢
          have hyy : y1 = y2 := by
            rcases y_cases g.prime h1 h2 with e | e
            · exact e
            · exact absurd e hy
          subst hyy
          have hi := finv_mul g.prime hy
          exact phi_hom_rel g ha hb hab (tangent_rel x1 y1 (finv (y1 + y1)) h1 (by rw [← hi]; grind) _ _ rfl rfl)
      · rw [if_neg hx] at hab ⊢
        have hi := finv_mul g.prime (x := x2 - x1) (fun e => hx (by clear hab; grind))
        exact phi_hom_rel g ha hb hab (chord_rel x1 y1 x2 y2 (finv (x2 - x1)) h1 h2 (by rw [← hi]; grind) _ _ rfl rfl)

theorem addE_comm (g : Good n s) {a b : EPt n} (ha : onE a) (hb : onE b) : addE a b = addE b a :=
  phi_inj g (addE_on g ha hb) (addE_on g hb ha) (by rw [phi_hom g ha hb, phi_hom g hb ha, addC_comm])
theorem addE_assoc (g : Good n s) {a b c : EPt n} (ha : onE a) (hb : onE b) (hc : onE c) : addE (addE a b) c = addE a (addE b c) :=
  phi_inj g (addE_on g (addE_on g ha hb) hc) (addE_on g ha (addE_on g hb hc)) (by
    rw [phi_hom g (addE_on g ha hb) hc, phi_hom g ha hb, phi_hom g ha (addE_on g hb hc), phi_hom g hb hc, g.addC_assoc (phi_on g ha) (phi_on g hb) (phi_on g hc)])

end
end Obol

namespace Obol
section
variable {n : Nat} [NeZero n] {s : Fin n}

/-! ### powers -/
def fpow (x : Fin n) : Nat → Fin n
  | 0 => 1
  | k + 1 => fpow x k * x
theorem fpow_succ (x : Fin n) (k : Nat) : fpow x (k + 1) = fpow x k * x := rfl
theorem fpow_add (x : Fin n) (j k : Nat) : fpow x (j + k) = fpow x j * fpow x k := by
  induction k with
  | zero => show fpow x j = fpow x j * 1; grind
  | succ k ih => rw [← Nat.add_assoc, fpow_succ, fpow_succ, ih]; grind
theorem fpow_mul' (x y : Fin n) (k : Nat) : fpow (x * y) k = fpow x k * fpow y k := by
  induction k with
  | zero => show (1 : Fin n) = 1 * 1; grind
  | succ k ih => rw [fpow_succ, fpow_succ, fpow_succ, ih]; grind
theorem fpow_val (x : Fin n) (k : Nat) : (fpow x k).val = x.val ^ k % n := by
  induction k with
  | zero => rfl
  | succ k ih => rw [fpow_succ, Fin.val_mul, ih, Nat.pow_succ]; simp [Nat.mul_mod]
theorem fpow_sq (x : Fin n) (k : Nat) : fpow x (k + k) = fpow (x * x) k := by rw [fpow_add, fpow_mul']
theorem fpow_one (k : Nat) : fpow (1 : Fin n) k = 1 := by
  induction k with
  | zero => rfl
  | succ k ih => rw [fpow_succ, ih]; grind
theorem fpow_neg_odd (x : Fin n) (m : Nat) : fpow (-x) (m + m + 1) = - fpow x (m + m + 1) := by
  have h : (-x) * (-x) = x * x := by grind
  rw [fpow_succ, fpow_succ, fpow_sq, fpow_sq, h]; grind
theorem fpow_ne (hp : IsPrime n) {x : Fin n} (hx : x ≠ 0) (k : Nat) : fpow x k ≠ 0 := by
  induction k with
  | zero =>
    intro h
    exact hx (by have : x * (1 : Fin n) = 0 := by rw [show (1 : Fin n) = 0 from h]; grind
                 grind)
  | succ k ih => exact fin_mul_ne_zero hp ih hx
theorem fpow_fermat (hp : IsPrime n) {x : Fin n} (hx : x ≠ 0) : fpow x (n - 1) = 1 := by
  have h2 := hp.1
  apply Fin.ext
  rw [fpow_val, fermat hp (fun hd => hx (Fin.ext (by have := Nat.eq_zero_of_dvd_of_lt hd x.isLt; simpa using this)))]
  show 1 = 1 % n
  rw [Nat.mod_eq_of_lt (by omega)]

/-- by two numbers the prime is told good: half of it is odd, 2 has no root, s is a root of -2 -/
theorem good_of (hp : IsPrime n) (j : Nat) (hj : n = 4 * j + 3) (h2 : fpow (2 : Fin n) (j + j + 1) = -1) (hs : s * s = -2) : Good n s := by
  have one : (1 : Fin n) ≠ 0 := by
    intro h
    have : (1 : Fin n).val = 0 := by rw [h]; rfl
    have h1 : 1 % n = 0 := this
    rw [Nat.mod_eq_of_lt (by omega)] at h1
    omega
  have two : (2 : Fin n) ≠ 0 := by
    intro h
    have e : fpow (0 : Fin n) (j + j + 1) = 0 := by rw [fpow_succ]; grind
    rw [h, e] at h2
    exact one (by grind)
  have m : n - 1 = (j + j + 1) + (j + j + 1) := by omega
  have ff : ∀ x : Fin n, x ≠ 0 → fpow (x * x) (j + j + 1) = 1 := by
    intro x hx
    rw [← fpow_sq, ← m, fpow_fermat hp hx]
  have bad : (1 : Fin n) ≠ -1 := fun h => two (by grind)
  refine ⟨hp, two, ?_, ?_, hs⟩
  · intro x h
    have hx : x ≠ 0 := by intro e; subst e; exact one (by grind)
    have e : x * x = -1 := by grind
    have := ff x hx
    rw [e, fpow_neg_odd, fpow_one] at this
    exact bad this.symm
  · intro x h
    have hx : x ≠ 0 := by intro e; subst e; exact two (by grind)
    have := ff x hx
    rw [h, h2] at this
    exact bad this.symm

theorem Good.one_ne (g : Good n s) : (1 : Fin n) ≠ 0 := fun h => g.noI 0 (by rw [h]; grind)
theorem mul_zero' (x : Fin n) : x * 0 = 0 := by grind
theorem mul_comm' (x y : Fin n) : x * y = y * x := by grind

/-! ### the points, all of them, and their opposites -/
def negE : EPt n → EPt n
  | none => none
  | some (x, y) => some (x, -y)
theorem negE_on {a : EPt n} (h : onE a) : onE (negE a) := by
  cases a with
  | none => trivial
  | some a =>
    obtain ⟨x, y⟩ := a
    have h : y * y = x * x * x + x := h
    show -y * -y = x * x * x + x
    rw [← h]; grind
theorem addE_neg (a : EPt n) : addE (negE a) a = none := by
  cases a with
  | none => rfl
  | some a =>
    obtain ⟨x, y⟩ := a
    unfold addE negE
    simp only [if_true]
    rw [if_pos (by grind)]

/-- a point that is told by a number that isn't 0 -/
def ptOf (j : Nat) (x : Fin n) : EPt n :=
  some (fpow (x * x * x + x) (j + j + 1) * x, fpow (x * x * x + x) (j + j + 1) * fpow (fpow (x * x * x + x) (j + j + 1) * (x * x * x + x)) (j + 1))

theorem curve_ne (g : Good n s) {x : Fin n} (hx : x ≠ 0) : x * x * x + x ≠ 0 := by
  have := fin_mul_ne_zero g.prime hx (g.noI x)
  intro h; exact this (by grind)

theorem half_sq (g : Good n s) {j : Nat} (hj : n = 4 * j + 3) {f : Fin n} (hf : f ≠ 0) : fpow f (j + j + 1) * fpow f (j + j + 1) = 1 := by
  rw [← fpow_add, show (j + j + 1) + (j + j + 1) = n - 1 by omega, fpow_fermat g.prime hf]
theorem half_cases (g : Good n s) {j : Nat} (hj : n = 4 * j + 3) {f : Fin n} (hf : f ≠ 0) : fpow f (j + j + 1) = 1 ∨ fpow f (j + j + 1) = -1 := by
  have h := half_sq g hj hf
  generalize fpow f (j + j + 1) = e at *
  have : (e - 1) * (e + 1) = 0 := by grind
  rcases fin_mul_eq_zero g.prime this with h | h
  · left; grind
  · right; grind
/-- the root of what is its half's times itself -/
theorem root_sq (g : Good n s) {j : Nat} (hj : n = 4 * j + 3) {f : Fin n} (hf : f ≠ 0) :
    fpow (fpow f (j + j + 1) * f) (j + 1) * fpow (fpow f (j + j + 1) * f) (j + 1) = fpow f (j + j + 1) * f := by
  rw [← fpow_mul', ← fpow_sq, show (j + 1) + (j + 1) = (j + j + 1) + 1 by omega, fpow_succ, fpow_mul']
  have h := half_sq g hj hf
  rcases half_cases g hj hf with e | e
  · rw [e, fpow_one]; grind
  · rw [e, show fpow (-1 : Fin n) (j + j + 1) = -1 from by rw [fpow_neg_odd, fpow_one]]; grind

theorem ptOf_on (g : Good n s) {j : Nat} (hj : n = 4 * j + 3) {x : Fin n} (hx : x ≠ 0) : onE (ptOf j x) := by
  have hf := curve_ne g hx
  have h := half_sq g hj hf
  have r := root_sq g hj hf
  unfold ptOf
  generalize hF : x * x * x + x = f at *
  generalize fpow (fpow f (j + j + 1) * f) (j + 1) = q at *
  generalize fpow f (j + j + 1) = e at *
  show e * q * (e * q) = e * x * (e * x) * (e * x) + e * x
  have a1 : e * q * (e * q) = e * f := by grind
  have a2 : e * x * (e * x) * (e * x) + e * x = e * (x * x * x + x) := by grind
  rw [a1, a2, hF]

theorem ptOf_inj (g : Good n s) {j : Nat} (hj : n = 4 * j + 3) {x y : Fin n} (hx : x ≠ 0) (hy : y ≠ 0) (h : ptOf j x = ptOf j y) : x = y := by
  unfold ptOf at h
  have h1 := congrArg Prod.fst (Option.some.inj h)
  have h2 := congrArg Prod.snd (Option.some.inj h)
  simp only at h1 h2
  have hf := curve_ne g hx
  have hg := curve_ne g hy
  have cf := half_cases g hj hf
  have cg := half_cases g hj hg
  have sf := half_sq g hj hf
  have sg := half_sq g hj hg
  by_cases hxy : x = y
  · exact hxy
  exfalso
  have hn : y = -x := by
    clear h2
    rcases cf with e | e <;> rcases cg with e' | e' <;> rw [e, e'] at h1 <;> clear e e' sf sg hf hg
    · exact absurd (by grind) hxy
    · grind
    · grind
    · exact absurd (by grind) hxy
  subst hn
  have e1 : -x * -x * -x + -x = -(x * x * x + x) := by clear h1 h2; grind
  rw [e1] at h2
  generalize x * x * x + x = f at *
  rw [fpow_neg_odd] at h2
  have e2 : -fpow f (j + j + 1) * -f = fpow f (j + j + 1) * f := by clear h2; grind
  rw [e2] at h2
  have hq : fpow (fpow f (j + j + 1) * f) (j + 1) ≠ 0 := fpow_ne g.prime (fin_mul_ne_zero g.prime (fpow_ne g.prime hf _) hf) _
  have he : fpow f (j + j + 1) ≠ 0 := fpow_ne g.prime hf _
  generalize fpow (fpow f (j + j + 1) * f) (j + 1) = q at *
  generalize fpow f (j + j + 1) = e at *
  have := fin_mul_ne_zero g.prime g.two (fin_mul_ne_zero g.prime he hq)
  exact this (by clear this; grind)

theorem ptOf_surj (g : Good n s) {j : Nat} (hj : n = 4 * j + 3) {X Y : Fin n} (h : Y * Y = X * X * X + X) (hX : X ≠ 0) : ∃ x : Fin n, x ≠ 0 ∧ ptOf j x = some (X, Y) := by
  have hf := curve_ne g hX
  have hY : Y ≠ 0 := by intro e; subst e; exact hf (by rw [← h]; grind)
  have e1 : fpow (X * X * X + X) (j + j + 1) = 1 := by rw [← h, ← fpow_sq, show (j + j + 1) + (j + j + 1) = n - 1 by omega, fpow_fermat g.prime hY]
  have r := root_sq g hj hf
  rw [e1] at r
  have o : (1 : Fin n) * (X * X * X + X) = X * X * X + X := by grind
  rw [o] at r
  have hq : (fpow (X * X * X + X) (j + 1) - Y) * (fpow (X * X * X + X) (j + 1) + Y) = 0 := by
    generalize fpow (X * X * X + X) (j + 1) = q at *
    grind
  rcases fin_mul_eq_zero g.prime hq with c | c
  · refine ⟨X, hX, ?_⟩
    unfold ptOf
    rw [e1, o]
    generalize fpow (X * X * X + X) (j + 1) = q at *
    rw [show (1 : Fin n) * X = X from by grind, show (1 : Fin n) * q = Y from by grind]
  · refine ⟨-X, fun e => hX (by grind), ?_⟩
    unfold ptOf
    have n1 : -X * -X * -X + -X = -(X * X * X + X) := by clear r c hq e1; grind
    rw [n1, fpow_neg_odd, e1]
    have n2 : -(1 : Fin n) * -(X * X * X + X) = X * X * X + X := by clear r c hq e1; grind
    rw [n2]
    generalize fpow (X * X * X + X) (j + 1) = q at *
    rw [show -(1 : Fin n) * -X = X from by grind, show -(1 : Fin n) * q = Y from by grind]

def allE (n : Nat) [NeZero n] (j : Nat) : List (EPt n) := none :: some (0, 0) :: ((List.finRange n).tail).map (ptOf j)

theorem mem_tail_finRange (hn : 0 < n) (x : Fin n) : x ∈ (List.finRange n).tail ↔ x ≠ 0 := by
  have h : List.finRange n = 0 :: (List.finRange n).tail := by
    cases hl : List.finRange n with
    | nil => have := List.length_finRange (n := n); rw [hl] at this; simp at this; omega
    | cons a l =>
      have : (List.finRange n)[0]'(by rw [List.length_finRange]; exact hn) = a := by simp [hl]
      rw [List.getElem_finRange] at this
      have : a = 0 := by rw [← this]; apply Fin.ext; simp
      rw [this]; rfl
  have nd := List.nodup_finRange n
  have mx := List.mem_finRange x
  rw [h] at nd mx
  rw [List.nodup_cons] at nd
  constructor
  · intro hx e; subst e; exact nd.1 hx
  · intro hx
    rcases List.mem_cons.1 mx with e | e
    · exact absurd e hx
    · exact e

theorem all_on (g : Good n s) {j : Nat} (hj : n = 4 * j + 3) (a : EPt n) : a ∈ allE n j ↔ onE a := by
  unfold allE
  constructor
  · intro h
    rcases List.mem_cons.1 h with h | h
    · subst h; trivial
    rcases List.mem_cons.1 h with h | h
    · subst h; show (0 : Fin n) * 0 = 0 * 0 * 0 + 0; grind
    · obtain ⟨x, hx, rfl⟩ := List.mem_map.1 h
      exact ptOf_on g hj ((mem_tail_finRange (by omega) x).1 hx)
  · intro h
    cases a with
    | none => simp
    | some a =>
      obtain ⟨X, Y⟩ := a
      have h : Y * Y = X * X * X + X := h
      refine List.mem_cons_of_mem _ ?_
      by_cases hX : X = 0
      · subst hX
        have hY : Y * Y = 0 := by rw [h]; grind
        have : Y = 0 := by rcases fin_mul_eq_zero g.prime hY with e | e <;> exact e
        subst this
        exact List.mem_cons_self
      · obtain ⟨x, hx, e⟩ := ptOf_surj g hj h hX
        exact List.mem_cons_of_mem _ (List.mem_map.2 ⟨x, (mem_tail_finRange (by omega) x).2 hx, e⟩)

theorem nodup_map_on {α β : Type} (f : α → β) : ∀ (l : List α), (∀ a ∈ l, ∀ b ∈ l, f a = f b → a = b) → l.Nodup → (l.map f).Nodup
  | [], _, _ => List.Pairwise.nil
  | a :: l, h, hn => by
    rw [List.map_cons, List.nodup_cons]
    rw [List.nodup_cons] at hn
    refine ⟨fun hm => ?_, nodup_map_on f l (fun a ha b hb => h a (List.mem_cons_of_mem _ ha) b (List.mem_cons_of_mem _ hb)) hn.2⟩
    obtain ⟨b, hb, e⟩ := List.mem_map.1 hm
    have := h b (List.mem_cons_of_mem _ hb) a List.mem_cons_self e
    subst this
    exact hn.1 hb

theorem all_nodup (g : Good n s) {j : Nat} (hj : n = 4 * j + 3) : (allE n j).Nodup := by
  have h0 : ∀ x ∈ (List.finRange n).tail, x ≠ 0 := fun x hx => (mem_tail_finRange (by omega) x).1 hx
  have nd : ((List.finRange n).tail).Nodup := by
    have := List.nodup_finRange n
    cases hl : List.finRange n with
    | nil => exact List.Pairwise.nil
    | cons a l => rw [hl, List.nodup_cons] at this; exact this.2
  unfold allE
  rw [List.nodup_cons, List.nodup_cons]
  refine ⟨?_, ?_, nodup_map_on _ _ (fun x hx y hy e => ptOf_inj g hj (h0 x hx) (h0 y hy) e) nd⟩
  · intro h
    rcases List.mem_cons.1 h with h | h
    · cases h
    · obtain ⟨x, _, e⟩ := List.mem_map.1 h
      unfold ptOf at e; cases e
  · intro h
    obtain ⟨x, hx, e⟩ := List.mem_map.1 h
    unfold ptOf at e
    have e1 := congrArg Prod.fst (Option.some.inj e)
    exact fin_mul_ne_zero g.prime (fpow_ne g.prime (curve_ne g (h0 x hx)) _) (h0 x hx) e1

theorem all_length (j : Nat) (hn : 0 < n) : (allE n j).length = n + 1 := by
  unfold allE
  rw [List.length_cons, List.length_cons, List.length_map, List.length_tail, List.length_finRange]
  omega

/-! ### multiples -/
def nsm (a : EPt n) : Nat → EPt n
  | 0 => none
  | k + 1 => addE (nsm a k) a
theorem addE_none (a : EPt n) : addE a none = a := by cases a <;> rfl
theorem none_addE (a : EPt n) : addE none a = a := rfl
theorem nsm_succ (a : EPt n) (k : Nat) : nsm a (k + 1) = addE (nsm a k) a := rfl
theorem nsm_on (g : Good n s) {a : EPt n} (ha : onE a) : ∀ k, onE (nsm a k)
  | 0 => trivial
  | k + 1 => addE_on g (nsm_on g ha k) ha
theorem nsm_add (g : Good n s) {a : EPt n} (ha : onE a) (j k : Nat) : nsm a (j + k) = addE (nsm a j) (nsm a k) := by
  induction k with
  | zero => exact (addE_none _).symm
  | succ k ih => rw [← Nat.add_assoc, nsm_succ, nsm_succ, ih, addE_assoc g (nsm_on g ha j) (nsm_on g ha k) ha]
theorem nsm_mul (g : Good n s) {a : EPt n} (ha : onE a) (j k : Nat) : nsm a (j * k) = nsm (nsm a j) k := by
  induction k with
  | zero => rfl
  | succ k ih => rw [Nat.mul_succ, nsm_add g ha, ih]; rfl

def sumL (l : List (EPt n)) : EPt n := l.foldr addE none
theorem sumL_on (g : Good n s) : ∀ (l : List (EPt n)), (∀ a ∈ l, onE a) → onE (sumL l)
  | [], _ => trivial
  | a :: l, h => addE_on g (h a List.mem_cons_self) (sumL_on g l (fun b hb => h b (List.mem_cons_of_mem _ hb)))
theorem sumL_perm (g : Good n s) {l k : List (EPt n)} (h : l.Perm k) : (∀ a ∈ l, onE a) → sumL l = sumL k := by
  induction h with
  | nil => intro _; rfl
  | cons a h ih => intro hl; exact congrArg (addE a) (ih (fun b hb => hl b (List.mem_cons_of_mem _ hb)))
  | swap a b l =>
    intro hl
    have ha := hl a (List.mem_cons_of_mem _ List.mem_cons_self)
    have hb := hl b List.mem_cons_self
    have hs := sumL_on g l (fun c hc => hl c (List.mem_cons_of_mem _ (List.mem_cons_of_mem _ hc)))
    show addE b (addE a (sumL l)) = addE a (addE b (sumL l))
    rw [← addE_assoc g hb ha hs, addE_comm g hb ha, addE_assoc g ha hb hs]
  | trans h1 h2 ih1 ih2 => intro hl; rw [ih1 hl, ih2 (fun a ha => hl a (h1.mem_iff.2 ha))]
theorem sumL_shift (g : Good n s) {a : EPt n} (ha : onE a) : ∀ (l : List (EPt n)), (∀ b ∈ l, onE b) → sumL (l.map (addE a)) = addE (nsm a l.length) (sumL l)
  | [], _ => rfl
  | b :: l, h => by
    have hb := h b List.mem_cons_self
    have hl := fun c hc => h c (List.mem_cons_of_mem _ hc)
    have hs := sumL_on g l hl
    have hk := nsm_on g ha l.length
    show addE (addE a b) (sumL (l.map (addE a))) = addE (addE (nsm a l.length) a) (addE b (sumL l))
    rw [sumL_shift g ha l hl, addE_assoc g ha hb (addE_on g hk hs), addE_assoc g hk ha (addE_on g hb hs), ← addE_assoc g hb hk hs, addE_comm g hb hk, addE_assoc g hk hb hs,
      ← addE_assoc g ha hk (addE_on g hb hs), addE_comm g ha hk, addE_assoc g hk ha (addE_on g hb hs)]

theorem addE_cancel (g : Good n s) {a b c : EPt n} (ha : onE a) (hb : onE b) (hc : onE c) (h : addE a b = addE a c) : b = c := by
  have := congrArg (addE (negE a)) h
  rwa [← addE_assoc g (negE_on ha) ha hb, ← addE_assoc g (negE_on ha) ha hc, addE_neg, none_addE, none_addE] at this

/-- no point's order is above n + 1 -/
theorem order (g : Good n s) {j : Nat} (hj : n = 4 * j + 3) {a : EPt n} (ha : onE a) : nsm a (n + 1) = none := by
  have hall : ∀ b ∈ allE n j, onE b := fun b hb => (all_on g hj b).1 hb
  have hp : ((allE n j).map (addE a)).Perm (allE n j) := by
    refine (List.perm_ext_iff_of_nodup (nodup_map_on _ _ (fun b hb c hc e => addE_cancel g ha (hall b hb) (hall c hc) e) (all_nodup g hj)) (all_nodup g hj)).2 ?_
    intro b
    rw [all_on g hj, List.mem_map]
    constructor
    · rintro ⟨c, hc, rfl⟩; exact addE_on g ha (hall c hc)
    · intro hb
      refine ⟨addE (negE a) b, (all_on g hj _).2 (addE_on g (negE_on ha) hb), ?_⟩
      rw [← addE_assoc g ha (negE_on ha) hb, addE_comm g ha (negE_on ha), addE_neg, none_addE]
  have hm : ∀ b ∈ (allE n j).map (addE a), onE b := by
    intro b hb
    obtain ⟨c, hc, rfl⟩ := List.mem_map.1 hb
    exact addE_on g ha (hall c hc)
  have e := sumL_perm g hp hm
  rw [sumL_shift g ha _ hall, all_length j (by omega)] at e
  have hs := sumL_on g _ hall
  have hk := nsm_on g ha (n + 1)
  refine addE_cancel g hs hk (show onE none from trivial) ?_
  rw [addE_comm g hs hk, e, addE_none]

end
end Obol


