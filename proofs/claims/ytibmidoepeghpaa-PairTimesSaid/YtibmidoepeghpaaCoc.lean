/- Lines through points of the curve, at a point that is turned: a cocycle but for what is real, without any program. -/
import Derived.Test.YtibmidoepeghpaaQuad
namespace Obol
section
variable {n : Nat} [NeZero n] {s : Fin n}
/-- a line that is no wall, y = l x + m, through two points and the opposite of their sum -/
structure Ln (a a2 b b2 d d2 l m : Fin n) : Prop where
  pa : a2 = l * a + m
  pb : b2 = l * b + m
  pd : d2 = -(l * d + m)
  c1 : a + b + d = l * l
  c2 : a * b + a * d + b * d = 1 - 2 * l * m
  c3 : a * b * d = m * m
theorem ln_chord {a a2 b b2 l i : Fin n} (h1 : a2 * a2 = a * a * a + a) (h2 : b2 * b2 = b * b * b + b) (hi : (b - a) * i = 1) (hl : l = (b2 - a2) * i) :
    Ln a a2 b b2 (l * l - a - b) (l * (a - (l * l - a - b)) - a2) l (a2 - l * a) where
  pa := by grobner
  pb := by grobner
  pd := by grobner
  c1 := by grobner
  c2 := by grobner
  c3 := by grobner
theorem ln_tan {a a2 l i : Fin n} (h1 : a2 * a2 = a * a * a + a) (hi : (a2 + a2) * i = 1) (hl : l = (3 * (a * a) + 1) * i) :
    Ln a a2 a a2 (l * l - a - a) (l * (a - (l * l - a - a)) - a2) l (a2 - l * a) where
  pa := by grobner
  pb := by grobner
  pd := by grobner
  c1 := by grobner
  c2 := by grobner
  c3 := by grobner
theorem Ln.nm {a a2 b b2 d d2 l m : Fin n} (h : Ln a a2 b b2 d d2 l m) (X : Fin n) : X * X * X + X - (l * X + m) * (l * X + m) = (X - a) * (X - b) * (X - d) := by
  obtain ⟨_, _, _, c1, c2, c3⟩ := h
  have e : X * X * X + X - (l * X + m) * (l * X + m) - (X - a) * (X - b) * (X - d) = X * X * (a + b + d - l * l) - X * (a * b + a * d + b * d - (1 - 2 * l * m)) + (a * b * d - m * m) := by clear c1 c2 c3; grobner
  rw [c1, c2, c3] at e
  grobner
theorem Ln.swap {a a2 b b2 d d2 l m : Fin n} (h : Ln a a2 b b2 d d2 l m) : Ln b b2 a a2 d d2 l m := by
  obtain ⟨pa, pb, pd, c1, c2, c3⟩ := h
  exact ⟨pb, pa, pd, by rw [← c1]; grobner, by rw [← c2]; grobner, by rw [← c3]; grobner⟩
structure Two (a a2 b b2 c c2 f l1 m1 l2 m2 d u v : Fin n) : Prop where
  k3 : 2 * u - (l1 + l2) * (l1 + l2) = -(a + b + c + f)
  k2 : u * u + 2 * v = a * b + a * c + a * f + b * c + b * f + c * f
  k1 : 2 * u * v - (l1 + l2) * (l1 + l2) = -(a * b * c + a * b * f + a * c * f + b * c * f)
  k0 : v * v = a * b * c * f
  za : a * a + u * a + v = (l1 + l2) * a2
  zb : b * b + u * b + v = (l1 + l2) * b2
  zc : c * c + u * c + v = (l1 + l2) * c2
  pr : ∀ X : Fin n, X * X * X + X + (l1 * X + m1) * (l2 * X + m2) = (X - d) * (X * X + u * X + v)
  su : ∀ X : Fin n, l1 * X + m1 + (l2 * X + m2) = (l1 + l2) * (X - d)
theorem t_v {a b c d f l1 l2 m1 m2 : Fin n} (hm : m2 = -(l1 + l2) * d - m1) (hs : a + b = l1 * l1 - d) (ht : c + f = l2 * l2 - d) (hp : a * b = 1 - 2 * l1 * m1 - (a + b) * d) (hq : c * f = 1 - 2 * l2 * m2 - (c + f) * d) :
    a * b + (l1 + l2) * m1 = c * f + (l1 + l2) * m2 := by rw [hp, hq, hs, ht, hm]; clear hp hq hs ht hm; grobner
theorem t_k2 {p q μ u v d l1 l2 m1 m2 A B : Fin n} (hμ : μ = l1 + l2) (hA : A = μ * l1 - u) (hB : B = μ * l2 - u) (hu : u = d + l1 * l2) (hp : p = v - μ * m1) (hq : q = v - μ * m2) (hm : m2 = -μ * d - m1) :
    u * u + 2 * v = p + A * B + q := by subst hA hB hp hq hm hu hμ; grobner
theorem t_k1 {p q μ u v d l1 l2 m1 m2 A B : Fin n} (hμ : μ = l1 + l2) (hA : A = μ * l1 - u) (hB : B = μ * l2 - u) (hu : u = d + l1 * l2) (hp : p = v - μ * m1) (hq : q = v - μ * m2) (hm : m2 = -μ * d - m1) (hv : v - m1 * l2 - l1 * m2 - u * d = 1) :
    2 * u * v - μ * μ = -(p * B + A * q) := by
  have e : 2 * u * v - μ * μ * (v - m1 * l2 - l1 * m2 - u * d) = -(p * B + A * q) := by clear hv; subst hA hB hp hq hm hu hμ; grobner
  rw [hv] at e; grobner
theorem t_k0 {p q μ v d m1 m2 : Fin n} (hp : p = v - μ * m1) (hq : q = v - μ * m2) (hm : m2 = -μ * d - m1) (hd : d * v = -(m1 * m2)) : v * v = p * q := by
  have e : v * v - p * q = -(μ * μ) * (d * v + m1 * m2) := by clear hd; subst hp hq hm; grobner
  rw [hd] at e; grobner
theorem two_lines {a a2 b b2 c c2 d d2 f f2 l1 l2 m1 m2 : Fin n} (L1 : Ln a a2 b b2 d d2 l1 m1) (L2 : Ln d d2 c c2 f f2 l2 m2) :
    Two a a2 b b2 c c2 f l1 m1 l2 m2 d (d + l1 * l2) (a * b + (l1 + l2) * m1) := by
  have n1 := L1.nm
  have n2 := L2.nm
  obtain ⟨pa, pb, pd, c1, c2', c3⟩ := L1
  obtain ⟨qd, qc, qf, e1, e2, e3⟩ := L2
  have hm : m2 = -(l1 + l2) * d - m1 := by clear c1 c2' c3 e1 e2 e3 n1 n2; grobner
  have hs : a + b = l1 * l1 - d := by clear c2' c3 e1 e2 e3 n1 n2 pa pb pd qd qc qf; grobner
  have ht : c + f = l2 * l2 - d := by clear c1 c2' c3 e2 e3 n1 n2 pa pb pd qd qc qf; grobner
  have hp : a * b = 1 - 2 * l1 * m1 - (a + b) * d := by clear c1 c3 e1 e2 e3 n1 n2 pa pb pd qd qc qf hm hs ht; grobner
  have hq : c * f = 1 - 2 * l2 * m2 - (c + f) * d := by clear c1 c2' c3 e1 e3 n1 n2 pa pb pd qd qc qf hm hs ht; grobner
  have hv := t_v hm hs ht hp hq
  have hv1 : a * b + (l1 + l2) * m1 - m1 * l2 - l1 * m2 - (d + l1 * l2) * d = 1 := by
    rw [hp, hs, hm]; clear c1 c2' c3 e1 e2 e3 n1 n2 pa pb pd qd qc qf hm hs ht hp hq hv; grobner
  have hd : d * (a * b + (l1 + l2) * m1) = -(m1 * m2) := by
    have : d * (a * b + (l1 + l2) * m1) = a * b * d + (l1 + l2) * d * m1 := by clear c1 c2' c3 e1 e2 e3 n1 n2 pa pb pd qd qc qf hm hs ht hp hq hv hv1; grobner
    rw [this, c3, hm]; clear c1 c2' c3 e1 e2 e3 n1 n2 pa pb pd qd qc qf hm hs ht hp hq hv hv1 this; grobner
  have hA : a + b = (l1 + l2) * l1 - (d + l1 * l2) := by rw [hs]; clear c1 c2' c3 e1 e2 e3 n1 n2 pa pb pd qd qc qf hm hs ht hp hq hv hv1 hd; grobner
  have hB : c + f = (l1 + l2) * l2 - (d + l1 * l2) := by rw [ht]; clear c1 c2' c3 e1 e2 e3 n1 n2 pa pb pd qd qc qf hm hs ht hp hq hv hv1 hd; grobner
  have hP : a * b = a * b + (l1 + l2) * m1 - (l1 + l2) * m1 := by clear c1 c2' c3 e1 e2 e3 n1 n2 pa pb pd qd qc qf hm hs ht hp hq hv hv1 hd hA hB; grobner
  have hQ : c * f = a * b + (l1 + l2) * m1 - (l1 + l2) * m2 := by rw [hv]; clear c1 c2' c3 e1 e2 e3 n1 n2 pa pb pd qd qc qf hm hs ht hp hq hv hv1 hd hA hB; grobner
  have K2 := t_k2 rfl hA hB rfl hP hQ hm
  have K1 := t_k1 rfl hA hB rfl hP hQ hm hv1
  have K0 := t_k0 hP hQ hm hd
  clear n1 n2 hv1 hp hq
  constructor
  · have : -(a + b + c + f) = -((a + b) + (c + f)) := by clear pa pb pd c1 c2' c3 qd qc qf e1 e2 e3 hm hs ht hv hd hA hB hP hQ K2 K1 K0; grobner
    rw [this, hs, ht]; clear pa pb pd c1 c2' c3 qd qc qf e1 e2 e3 hm hs ht hv hd hA hB hP hQ K2 K1 K0; grobner
  · rw [K2]; clear pa pb pd c1 c2' c3 qd qc qf e1 e2 e3 hm hs ht hv hd hA hB hP hQ K2 K1 K0; grobner
  · rw [K1]; clear pa pb pd c1 c2' c3 qd qc qf e1 e2 e3 hm hs ht hv hd hA hB hP hQ K2 K1 K0; grobner
  · rw [K0]; clear pa pb pd c1 c2' c3 qd qc qf e1 e2 e3 hm hs ht hv hd hA hB hP hQ K2 K1 K0; grobner
  · have : d + l1 * l2 = (l1 + l2) * l1 - (a + b) := by rw [hA]; clear pa pb pd c1 c2' c3 qd qc qf e1 e2 e3 hm hs ht hv hd hA hB hP hQ K2 K1 K0; grobner
    rw [this, pa]; clear pa pb pd c1 c2' c3 qd qc qf e1 e2 e3 hm hs ht hv hd hA hB hP hQ K2 K1 K0; grobner
  · have : d + l1 * l2 = (l1 + l2) * l1 - (a + b) := by rw [hA]; clear pa pb pd c1 c2' c3 qd qc qf e1 e2 e3 hm hs ht hv hd hA hB hP hQ K2 K1 K0; grobner
    rw [this, pb]; clear pa pb pd c1 c2' c3 qd qc qf e1 e2 e3 hm hs ht hv hd hA hB hP hQ K2 K1 K0; grobner
  · have : d + l1 * l2 = (l1 + l2) * l2 - (c + f) := by rw [hB]; clear pa pb pd c1 c2' c3 qd qc qf e1 e2 e3 hm hs ht hv hd hA hB hP hQ K2 K1 K0; grobner
    rw [this, hv, qc]; clear pa pb pd c1 c2' c3 qd qc qf e1 e2 e3 hm hs ht hv hd hA hB hP hQ K2 K1 K0; grobner
  · intro X
    have h0 : (l1 + l2) * l1 - (a + b) = d + l1 * l2 := by rw [hA]; clear pa pb pd c1 c2' c3 qd qc qf e1 e2 e3 hm hs ht hv hd hA hB hP hQ K2 K1 K0; grobner
    have e : X * X * X + X + (l1 * X + m1) * (l2 * X + m2) = X * X * X + X - (l1 * X + m1) * (l1 * X + m1) + (l1 * X + m1) * ((l1 + l2) * X + (m1 + m2)) := by clear pa pb pd c1 c2' c3 qd qc qf e1 e2 e3 hm hs ht hv hd hA hB hP hQ K2 K1 K0; grobner
    have n1 : X * X * X + X - (l1 * X + m1) * (l1 * X + m1) = (X - a) * (X - b) * (X - d) := Ln.nm (a2 := a2) (b2 := b2) (d2 := d2) ⟨pa, pb, pd, c1, c2', c3⟩ X
    rw [e, n1, hm, ← h0]; clear e n1 h0 pa pb pd c1 c2' c3 qd qc qf e1 e2 e3 hm hs ht hv hd hA hB hP hQ K2 K1 K0; grobner
  · intro X; rw [hm]; clear pa pb pd c1 c2' c3 qd qc qf e1 e2 e3 hm hs ht hv hd hA hB hP hQ K2 K1 K0; grobner
theorem core_eq {u v μ ν a a2 : Fin n} (hp : IsPrime n) (za : a * a + u * a + v = μ * a2) (za' : a * a + u * a + v = ν * a2) (ya : a2 ≠ 0) : μ = ν := by
  have h := za.symm.trans za'
  exact eq_of_mul hp ya h
theorem core_s {u μ ν a a2 : Fin n} (hp : IsPrime n) (h2 : (2 : Fin n) ≠ 0) (hu : u ≠ 0) (hk : (μ - ν) * (μ + ν) = 4 * u) (za : a * a + u * a + 1 = μ * a2) (za' : a * a + -u * a + 1 = ν * a2) : 2 * a2 = (μ + ν) * a := by
  have h : 2 * u * a = (μ - ν) * a2 := by clear hk; grobner
  have e : 2 * u * ((μ + ν) * a) = 2 * u * (2 * a2) := by
    have : 2 * u * ((μ + ν) * a) = (μ + ν) * (2 * u * a) := by clear h hk za za'; grobner
    rw [this, h]
    have : (μ + ν) * ((μ - ν) * a2) = (μ - ν) * (μ + ν) * a2 := by clear h hk za za' this; grobner
    rw [this, hk]; clear h hk za za' this; grobner
  exact (fin_cancel hp (fin_mul_ne_zero hp h2 hu) e).symm
theorem core {u v u' v' μ ν a a2 b b2 c c2 : Fin n} (hp : IsPrime n) (h2 : (2 : Fin n) ≠ 0) (hI : ∀ x : Fin n, x * x + 1 ≠ 0)
    (e3 : 2 * u - μ * μ = 2 * u' - ν * ν) (e2 : u * u + 2 * v = u' * u' + 2 * v') (e1 : 2 * u * v - μ * μ = 2 * u' * v' - ν * ν) (e0 : v * v = v' * v')
    (za : a * a + u * a + v = μ * a2) (za' : a * a + u' * a + v' = ν * a2) (zb : b * b + u * b + v = μ * b2) (zb' : b * b + u' * b + v' = ν * b2)
    (zc : c * c + u * c + v = μ * c2) (zc' : c * c + u' * c + v' = ν * c2) (ya : a2 ≠ 0) :
    (μ = ν ∧ u = u' ∧ v = v') ∨ (∃ s : Fin n, a2 = s * a ∧ b2 = s * b ∧ c2 = s * c) := by
  have h0 : (v - v') * (v + v') = 0 := by clear e3 e2 e1 za za' zb zb' zc zc'; grobner
  by_cases hv : v = v'
  · subst hv
    have h1 : (u - u') * (u + u') = 0 := by clear e3 e1 e0 h0 za za' zb zb' zc zc'; grobner
    by_cases hu : u = u'
    · subst hu
      exact .inl ⟨core_eq hp za za' ya, rfl, rfl⟩
    · right
      have hs : u + u' = 0 := by
        rcases fin_mul_eq_zero hp h1 with h | h
        · exact absurd (by clear e3 e2 e1 e0 h0 za za' zb zb' zc zc' h1; grobner) hu
        · exact h
      obtain rfl : u' = -u := by clear e3 e2 e1 e0 h0 za za' zb zb' zc zc' h1; grobner
      have hu0 : u ≠ 0 := by rintro rfl; exact hu (by clear e3 e2 e1 e0 h0 za za' zb zb' zc zc' h1 hs; grobner)
      have hk : (μ - ν) * (μ + ν) = 4 * u := by clear e2 e1 e0 h0 za za' zb zb' zc zc' h1 hs; grobner
      have hv1 : 2 * (2 * u) * v = 2 * (2 * u) * 1 := by
        have : 2 * (2 * u) * v = (2 * u * v - μ * μ) - (2 * -u * v - ν * ν) + (μ - ν) * (μ + ν) := by clear e3 e2 e1 e0 h0 za za' zb zb' zc zc' h1 hs hk; grobner
        rw [this, e1, hk]; clear e3 e2 e1 e0 h0 za za' zb zb' zc zc' h1 hs hk this; grobner
      have hv1 : v = 1 := fin_cancel hp (fin_mul_ne_zero hp h2 (fin_mul_ne_zero hp h2 hu0)) hv1
      subst hv1
      obtain ⟨i, hi⟩ := fin_inv hp h2
      have sa := core_s hp h2 hu0 hk za za'
      have sb := core_s hp h2 hu0 hk zb zb'
      have sc := core_s hp h2 hu0 hk zc zc'
      clear e3 e2 e1 e0 h0 za za' zb zb' zc zc' h1 hs hk
      refine ⟨(μ + ν) * i, ?_, ?_, ?_⟩
      · clear sb sc; grobner
      · clear sa sc; grobner
      · clear sa sb; grobner
  · exfalso
    have hs : v + v' = 0 := by
      rcases fin_mul_eq_zero hp h0 with h | h
      · exact absurd (by clear e3 e2 e1 e0 h0 za za' zb zb' zc zc'; grobner) hv
      · exact h
    obtain rfl : v' = -v := by clear e3 e2 e1 e0 h0 za za' zb zb' zc zc'; grobner
    have hv0 : v ≠ 0 := by rintro rfl; exact hv (by clear e3 e2 e1 e0 h0 za za' zb zb' zc zc' hs; grobner)
    have g1 : 2 * (v * (u + u')) = 2 * (u - u') := by clear e2 e0 h0 za za' zb zb' zc zc' hs; grobner
    have g1 := fin_cancel hp h2 g1
    have g2 : (u - u') * (u + u') = -(4 * v) := by clear e3 e1 e0 h0 za za' zb zb' zc zc' hs g1; grobner
    have g3 : v * ((u + u') * (u + u')) = v * (-4) := by
      rw [← g1] at g2; clear e3 e2 e1 e0 h0 za za' zb zb' zc zc' hs g1; grobner
    have g3 := fin_cancel hp hv0 g3
    obtain ⟨i, hi⟩ := fin_inv hp h2
    refine hI ((u + u') * i) ?_
    clear e3 e2 e1 e0 h0 za za' zb zb' zc zc' hs g1 g2
    have : (u + u') * i * ((u + u') * i) + 1 = (u + u') * (u + u') * (i * i) + 1 := by clear g3 hi; grobner
    rw [this, g3]; clear g3 this; grobner
theorem no_s {a a2 b b2 d d2 l m s : Fin n} (hp : IsPrime n) (L : Ln a a2 b b2 d d2 l m) (ha : a2 = s * a) (hb : b2 = s * b) (ya : a2 ≠ 0) (yb : b2 ≠ 0) (yd : d2 ≠ 0) : a = b := by
  apply Classical.byContradiction
  intro h
  obtain ⟨pa, pb, pd, c1, c2, c3⟩ := L
  have e : (a - b) * l = (a - b) * s := by clear c1 c2 c3 pd; grobner
  have e : l = s := fin_cancel hp (fun e => h (by clear c1 c2 c3 pd pa pb ha hb; grobner)) e
  subst e
  have hm : m = 0 := by clear c1 c2 c3 pd; grobner
  subst hm
  have ha0 : a ≠ 0 := fun e => ya (by rw [ha, e]; clear c1 c2 c3 pd pa pb ha hb e; grobner)
  have hb0 : b ≠ 0 := fun e => yb (by rw [hb, e]; clear c1 c2 c3 pd pa pb ha hb e; grobner)
  have hd : d = 0 := by
    rcases fin_mul_eq_zero hp (c3.trans (by clear c1 c2 c3 pd pa pb ha hb; grobner : (0 : Fin n) * 0 = 0)) with h | h
    · exact absurd h (fin_mul_ne_zero hp ha0 hb0)
    · exact h
  exact yd (by rw [pd, hd]; clear c1 c2 c3 pd pa pb ha hb hd; grobner)
theorem coc_main {a a2 b b2 c c2 d d2 e e2 f f2 l1 l2 l3 l4 m1 m2 m3 m4 : Fin n} (hp : IsPrime n) (h2 : (2 : Fin n) ≠ 0) (hI : ∀ x : Fin n, x * x + 1 ≠ 0)
    (L1 : Ln a a2 b b2 d d2 l1 m1) (L2 : Ln d d2 c c2 f f2 l2 m2) (L3 : Ln b b2 c c2 e e2 l3 m3) (L4 : Ln e e2 a a2 f f2 l4 m4)
    (ya : a2 ≠ 0) (yb : b2 ≠ 0) (yc : c2 ≠ 0) (yd : d2 ≠ 0) (ye : e2 ≠ 0) (hne : ¬ (a = b ∧ b = c)) (X : Fin n) :
    (l1 * X + m1 + (l2 * X + m2)) * (X * X * X + X + (l3 * X + m3) * (l4 * X + m4)) = (l3 * X + m3 + (l4 * X + m4)) * (X * X * X + X + (l1 * X + m1) * (l2 * X + m2)) := by
  have T := two_lines L1 L2
  have S := two_lines L3 L4
  have hc := core hp h2 hI (u := d + l1 * l2) (v := a * b + (l1 + l2) * m1) (u' := e + l3 * l4) (v' := b * c + (l3 + l4) * m3) (μ := l1 + l2) (ν := l3 + l4)
    (by rw [T.k3, S.k3]; clear T S L1 L2 L3 L4; grobner) (by rw [T.k2, S.k2]; clear T S L1 L2 L3 L4; grobner) (by rw [T.k1, S.k1]; clear T S L1 L2 L3 L4; grobner) (by rw [T.k0, S.k0]; clear T S L1 L2 L3 L4; grobner)
    T.za S.zc T.zb S.za T.zc S.zb ya
  rcases hc with ⟨h1, h3, h4⟩ | ⟨s, sa, sb, sc⟩
  · rw [T.su, T.pr, S.su, S.pr, h4, h1, h3]
    clear T S L1 L2 L3 L4; grobner
  · have hab := no_s hp L1 sa sb ya yb yd
    have hbc := no_s hp L3 sb sc yb yc ye
    exact absurd ⟨hab, hbc⟩ hne
/-- the same, but for what is real -/
def Q2 (u v : E2 n) : Prop := ∃ c : Fin n, c ≠ 0 ∧ u = mul2 (c, 0) v
theorem Q2.refl (g : Good n s) (u : E2 n) : Q2 u u := ⟨1, g.one_ne, (one_mul2 u).symm⟩
theorem Q2.symm (g : Good n s) {u v : E2 n} (h : Q2 u v) : Q2 v u := by
  obtain ⟨c, hc, rfl⟩ := h
  obtain ⟨i, hi⟩ := fin_inv g.prime hc
  refine ⟨i, fun e => ?_, ?_⟩
  · subst e
    exact g.one_ne (hi.symm.trans (mul_zero' c))
  · rw [← mul2_assoc, show mul2 ((i, 0) : E2 n) (c, 0) = (1, 0) from Prod.ext (by simp only [mul2]; grobner) (by simp only [mul2]; clear hi; grobner), one_mul2]
theorem Q2.trans (g : Good n s) {u v w : E2 n} (h : Q2 u v) (k : Q2 v w) : Q2 u w := by
  obtain ⟨c, hc, rfl⟩ := h
  obtain ⟨d, hd, rfl⟩ := k
  refine ⟨c * d, fin_mul_ne_zero g.prime hc hd, ?_⟩
  rw [← mul2_assoc]
  congr 1
  exact Prod.ext (by simp only [mul2]; grobner) (by simp only [mul2]; grobner)
theorem Q2.mul (g : Good n s) {u v u' v' : E2 n} (h : Q2 u v) (k : Q2 u' v') : Q2 (mul2 u u') (mul2 v v') := by
  obtain ⟨c, hc, rfl⟩ := h
  obtain ⟨d, hd, rfl⟩ := k
  refine ⟨c * d, fin_mul_ne_zero g.prime hc hd, ?_⟩
  rw [mul2_swap]
  congr 1
  exact Prod.ext (by simp only [mul2]; grobner) (by simp only [mul2]; grobner)
theorem Q2.of_eq (g : Good n s) {u v : E2 n} (h : u = v) : Q2 u v := h ▸ .refl g u
theorem inv_two (g : Good n s) {v : E2 n} (h : v ≠ (0, 0)) : ∃ i : E2 n, mul2 v i = (1, 0) := by
  obtain ⟨k, hk⟩ := fin_inv g.prime (norm_ne g.prime g.noI h)
  refine ⟨(v.1 * k, -v.2 * k), Prod.ext ?_ ?_⟩
  · show v.1 * (v.1 * k) - v.2 * (-v.2 * k) = 1
    rw [← hk]; clear hk; grobner
  · show v.1 * (-v.2 * k) + v.2 * (v.1 * k) = 0
    clear hk; grobner
theorem mul2_ne (g : Good n s) {u v : E2 n} (hu : u ≠ (0, 0)) (hv : v ≠ (0, 0)) : mul2 u v ≠ (0, 0) := by
  intro e
  obtain ⟨i, hi⟩ := inv_two g hv
  have : mul2 (mul2 u v) i = u := by rw [mul2_assoc, hi, mul2_one]
  rw [e, mul2_comm, mul2_zero] at this
  exact hu this.symm
theorem Q2.cancel (g : Good n s) {u v w : E2 n} (hw : w ≠ (0, 0)) (h : Q2 (mul2 u w) (mul2 v w)) : Q2 u v := by
  obtain ⟨i, hi⟩ := inv_two g hw
  have := h.mul g (Q2.refl g i)
  rw [mul2_assoc, mul2_assoc, hi, mul2_one, mul2_one] at this
  exact this
theorem Q2.cross (g : Good n s) {u v : E2 n} (hu : u ≠ (0, 0)) (hv : v ≠ (0, 0)) (h : u.1 * v.2 = u.2 * v.1) : Q2 u v := by
  have hN := norm_ne g.prime g.noI hv
  obtain ⟨k, hk⟩ := fin_inv g.prime hN
  have e : u = mul2 ((u.1 * v.1 + u.2 * v.2) * k, 0) v := by
    refine Prod.ext ?_ ?_
    · show u.1 = (u.1 * v.1 + u.2 * v.2) * k * v.1 - 0 * v.2
      have : (u.1 * v.1 + u.2 * v.2) * k * v.1 - 0 * v.2 = (v.1 * v.1 + v.2 * v.2) * k * u.1 + (u.2 * v.1 - u.1 * v.2) * (k * v.2) := by clear hk h; grobner
      rw [this, hk, h]; clear hk h this; grobner
    · show u.2 = (u.1 * v.1 + u.2 * v.2) * k * v.2 + 0 * v.1
      have : (u.1 * v.1 + u.2 * v.2) * k * v.2 + 0 * v.1 = (v.1 * v.1 + v.2 * v.2) * k * u.2 + (u.1 * v.2 - u.2 * v.1) * (k * v.1) := by clear hk h; grobner
      rw [this, hk, h]; clear hk h this; grobner
  refine ⟨_, fun e0 => ?_, e⟩
  rw [e0, mul2_comm, mul2_zero] at e
  exact hu e
/-! the line's value -/
def lamQ (a a2 b b2 : Fin n) : Fin n := if a = b then (3 * (a * a) + 1) * finv (a2 + a2) else (b2 - a2) * finv (b - a)
def cv (qx qy : Fin n) : EPt n → EPt n → E2 n
  | some (a, a2), some (b, b2) => if a = b ∧ a2 + b2 = 0 then (1, 0) else (lamQ a a2 b b2 * (qx + a) - a2, qy)
  | _, _ => (1, 0)
theorem cv_none (qx qy : Fin n) (B : EPt n) : cv qx qy none B = (1, 0) := by cases B <;> rfl
theorem cv_none' (qx qy : Fin n) (A : EPt n) : cv qx qy A none = (1, 0) := by cases A <;> rfl
theorem two_ne (g : Good n s) {y : Fin n} (h : y ≠ 0) : y + y ≠ 0 := by
  intro e
  exact fin_mul_ne_zero g.prime g.two h (by rw [← e]; clear e; grobner)
theorem Ln.lam (g : Good n s) {a a2 b b2 d d2 l m : Fin n} (h : Ln a a2 b b2 d d2 l m) (ya : a2 ≠ 0) : l = lamQ a a2 b b2 := by
  obtain ⟨pa, pb, pd, c1, c2, c3⟩ := h
  unfold lamQ
  split
  · rename_i e
    subst e
    have hy := two_ne g ya
    have e : 3 * (a * a) + 1 = l * (a2 + a2) := by
      have : l * (a2 + a2) = 2 * (l * l) * a + 2 * l * m := by rw [pa]; clear pa pb pd c1 c2 c3; grobner
      rw [this, ← c1, show 2 * l * m = 1 - (a * a + a * d + a * d) by rw [c2]; clear pa pb pd c1 c2 c3 this; grobner]
      clear pa pb pd c1 c2 c3 this; grobner
    exact (mul_finv_eq g.prime hy e).symm
  · rename_i e
    have hd : b - a ≠ 0 := fun h => e (by clear pa pb pd c1 c2 c3; grobner)
    exact (mul_finv_eq g.prime hd (by rw [pa, pb]; clear pa pb pd c1 c2 c3; grobner)).symm
theorem cv_ln (g : Good n s) (qx qy : Fin n) {a a2 b b2 d d2 l m : Fin n} (h : Ln a a2 b b2 d d2 l m) (ya : a2 ≠ 0) : cv qx qy (some (a, a2)) (some (b, b2)) = (-(l * -qx + m), qy) := by
  have e := h.lam g ya
  show (if a = b ∧ a2 + b2 = 0 then (1, 0) else (lamQ a a2 b b2 * (qx + a) - a2, qy)) = _
  rw [if_neg, ← e, h.pa]
  · exact Prod.ext (by show l * (qx + a) - (l * a + m) = -(l * -qx + m); clear e; grobner) rfl
  · rintro ⟨rfl, h1⟩
    exact two_ne g ya (by rw [h.pb, ← h.pa] at h1; exact h1)
theorem add_ln (g : Good n s) {a a2 b b2 : Fin n} (ha : a2 * a2 = a * a * a + a) (hb : b2 * b2 = b * b * b + b) (h : ¬ (a = b ∧ a2 + b2 = 0)) :
    ∃ d d2 l m, addE (some (a, a2)) (some (b, b2)) = some (d, d2) ∧ Ln a a2 b b2 d d2 l m := by
  show ∃ d d2 l m, (if a = b then (if a2 + b2 = 0 then none else lineE ((3 * (a * a) + 1) * finv (a2 + a2)) a a2 b) else lineE ((b2 - a2) * finv (b - a)) a a2 b) = some (d, d2) ∧ Ln a a2 b b2 d d2 l m
  by_cases e : a = b
  · subst e
    have h1 : ¬ a2 + b2 = 0 := fun e => h ⟨rfl, e⟩
    have h2 : a2 = b2 := by
      rcases y_cases g.prime ha hb with h | h
      · exact h
      · exact absurd h h1
    subst h2
    rw [if_pos rfl, if_neg h1]
    exact ⟨_, _, _, _, rfl, ln_tan ha (finv_mul g.prime h1) rfl⟩
  · rw [if_neg e]
    have hd : b - a ≠ 0 := fun h => e (by clear ha hb; grobner)
    exact ⟨_, _, _, _, rfl, ln_chord ha hb (finv_mul g.prime hd) rfl⟩
theorem add_vert {a a2 b b2 : Fin n} (h : a = b ∧ a2 + b2 = 0) : addE (some (a, a2)) (some (b, b2)) = none := by
  show (if a = b then (if a2 + b2 = 0 then none else lineE ((3 * (a * a) + 1) * finv (a2 + a2)) a a2 b) else lineE ((b2 - a2) * finv (b - a)) a a2 b) = none
  rw [if_pos h.1, if_pos h.2]
theorem vert_add {a a2 b b2 : Fin n} (h : addE (some (a, a2)) (some (b, b2)) = none) : a = b ∧ a2 + b2 = 0 := by
  have h : (if a = b then (if a2 + b2 = 0 then none else lineE ((3 * (a * a) + 1) * finv (a2 + a2)) a a2 b) else lineE ((b2 - a2) * finv (b - a)) a a2 b) = none := h
  split at h
  · split at h
    · exact ⟨by assumption, by assumption⟩
    · cases h
  · cases h
theorem cv_vert (qx qy : Fin n) {a a2 b b2 : Fin n} (h : a = b ∧ a2 + b2 = 0) : cv qx qy (some (a, a2)) (some (b, b2)) = (1, 0) := by
  show (if a = b ∧ a2 + b2 = 0 then (1, 0) else (lamQ a a2 b b2 * (qx + a) - a2, qy)) = _
  rw [if_pos h]
theorem Ln.flip {a a2 b b2 d d2 l m : Fin n} (h : Ln a a2 b b2 d d2 l m) : Ln a (-a2) d d2 b b2 (-l) (-m) := by
  obtain ⟨pa, pb, pd, c1, c2, c3⟩ := h
  refine ⟨?_, ?_, ?_, ?_, ?_, ?_⟩
  · rw [pa]; clear pa pb pd c1 c2 c3; grobner
  · rw [pd]; clear pa pb pd c1 c2 c3; grobner
  · rw [pb]; clear pa pb pd c1 c2 c3; grobner
  · rw [show -l * -l = l * l by clear pa pb pd c1 c2 c3; grobner, ← c1]; clear pa pb pd c1 c2 c3; grobner
  · rw [show 1 - 2 * -l * -m = 1 - 2 * l * m by clear pa pb pd c1 c2 c3; grobner, ← c2]; clear pa pb pd c1 c2 c3; grobner
  · rw [show -m * -m = m * m by clear pa pb pd c1 c2 c3; grobner, ← c3]; clear pa pb pd c1 c2 c3; grobner
theorem Ln.rot {a a2 b b2 d d2 l m : Fin n} (h : Ln a a2 b b2 d d2 l m) : Ln b b2 d (-d2) a (-a2) l m := by
  obtain ⟨pa, pb, pd, c1, c2, c3⟩ := h
  refine ⟨pb, ?_, ?_, ?_, ?_, ?_⟩
  · rw [pd]; clear pa pb pd c1 c2 c3; grobner
  · rw [pa]
  · rw [← c1]; clear pa pb pd c1 c2 c3; grobner
  · rw [← c2]; clear pa pb pd c1 c2 c3; grobner
  · rw [← c3]; clear pa pb pd c1 c2 c3; grobner
theorem cv_comm (g : Good n s) (qx qy : Fin n) {A B : EPt n} (hA : onE A) (hB : onE B) (yA : ∀ x, A ≠ some (x, 0)) (yB : ∀ x, B ≠ some (x, 0)) : cv qx qy A B = cv qx qy B A := by
  cases A with
  | none => rw [cv_none, cv_none']
  | some A =>
  cases B with
  | none => rw [cv_none, cv_none']
  | some B =>
  obtain ⟨a, a2⟩ := A
  obtain ⟨b, b2⟩ := B
  have ya : a2 ≠ 0 := fun e => yA a (by rw [e])
  have yb : b2 ≠ 0 := fun e => yB b (by rw [e])
  by_cases h : a = b ∧ a2 + b2 = 0
  · rw [cv_vert qx qy h, cv_vert qx qy ⟨h.1.symm, by rw [← h.2]; clear h hA hB; grobner⟩]
  · obtain ⟨d, d2, l, m, _, L⟩ := add_ln g hA hB h
    rw [cv_ln g qx qy L ya, cv_ln g qx qy L.swap yb]
theorem cv_ne (qx qy : Fin n) (g : Good n s) (hq : qy ≠ 0) (A B : EPt n) : cv qx qy A B ≠ (0, 0) := by
  have h1 : ((1, 0) : E2 n) ≠ (0, 0) := fun e => g.one_ne (congrArg Prod.fst e)
  cases A with
  | none => rw [cv_none]; exact h1
  | some A =>
  cases B with
  | none => rw [cv_none']; exact h1
  | some B =>
  obtain ⟨a, a2⟩ := A
  obtain ⟨b, b2⟩ := B
  show (if a = b ∧ a2 + b2 = 0 then (1, 0) else (lamQ a a2 b b2 * (qx + a) - a2, qy)) ≠ (0, 0)
  split
  · exact h1
  · exact fun e => hq (congrArg Prod.snd e)
/-- points of an odd order -/
def Od (k : Nat) (A : EPt n) : Prop := onE A ∧ nsm A (2 * k + 1) = none
theorem nsm_none : ∀ k, nsm (none : EPt n) k = none
  | 0 => rfl
  | k + 1 => by rw [nsm_succ, nsm_none k]; rfl
theorem nsm_addE (g : Good n s) {A B : EPt n} (hA : onE A) (hB : onE B) : ∀ k, nsm (addE A B) k = addE (nsm A k) (nsm B k)
  | 0 => rfl
  | k + 1 => by
    have a1 := nsm_on g hA k
    have b1 := nsm_on g hB k
    rw [nsm_succ, nsm_succ, nsm_succ, nsm_addE g hA hB k, addE_assoc g a1 b1 (addE_on g hA hB), addE_assoc g a1 hA (addE_on g b1 hB), ← addE_assoc g b1 hA hB, addE_comm g b1 hA, addE_assoc g hA b1 hB]
theorem Od.add (g : Good n s) {k : Nat} {A B : EPt n} (hA : Od k A) (hB : Od k B) : Od k (addE A B) :=
  ⟨addE_on g hA.1 hB.1, by rw [nsm_addE g hA.1 hB.1, hA.2, hB.2]; rfl⟩
theorem Od.times (g : Good n s) {k : Nat} {A : EPt n} (hA : Od k A) : ∀ j, Od k (nsm A j)
  | 0 => ⟨trivial, nsm_none _⟩
  | j + 1 => (hA.times g j).add g hA
theorem Od.y (g : Good n s) {k : Nat} {A : EPt n} (hA : Od k A) (x : Fin n) : A ≠ some (x, 0) := by
  rintro rfl
  have h2 : nsm (some (x, (0 : Fin n))) 2 = none := by
    show addE (addE none (some (x, 0))) (some (x, 0)) = none
    exact add_vert ⟨rfl, by grobner⟩
  have := hA.2
  rw [nsm_add g hA.1, nsm_mul g hA.1, h2, nsm_none] at this
  cases this
theorem Od.y' (g : Good n s) {k : Nat} {x y : Fin n} (hA : Od k (some (x, y))) : y ≠ 0 := fun e => hA.y g x (by rw [e])
theorem flip_real (g : Good n s) {qy : Fin n} (hq0 : qy ≠ 0) {L : Fin n} : Q2 (mul2 ((-L, qy) : E2 n) (L, qy)) (1, 0) := by
  have e : mul2 ((-L, qy) : E2 n) (L, qy) = mul2 (-(L * L + qy * qy), 0) (1, 0) := Prod.ext (by simp only [mul2]; grobner) (by simp only [mul2]; grobner)
  refine ⟨_, fun h => ?_, e⟩
  exact norm_ne g.prime g.noI (a := (L, qy)) (fun e => hq0 (congrArg Prod.snd e)) (by show L * L + qy * qy = 0; clear e; grobner)
theorem coc (g : Good n s) {k : Nat} {qx qy : Fin n} (hq : qy * qy = qx * qx * qx + qx) (hq0 : qy ≠ 0) {A B C : EPt n} (hA : Od k A) (hB : Od k B) (hC : Od k C) :
    Q2 (mul2 (cv qx qy A B) (cv qx qy (addE A B) C)) (mul2 (cv qx qy B C) (cv qx qy A (addE B C))) := by
  cases A with
  | none => rw [cv_none, cv_none, none_addE, one_mul2, mul2_one]; exact .refl g _
  | some A =>
  cases B with
  | none => rw [cv_none, cv_none', none_addE, addE_none, one_mul2]; exact .refl g _
  | some B =>
  cases C with
  | none => rw [cv_none', cv_none', addE_none, mul2_one, one_mul2]; exact .refl g _
  | some C =>
  have hAB := hA.add g hB
  have hBC := hB.add g hC
  have hass := addE_assoc g hA.1 hB.1 hC.1
  obtain ⟨a, a2⟩ := A
  obtain ⟨b, b2⟩ := B
  obtain ⟨c, c2⟩ := C
  have ya := hA.y' g
  have yb := hB.y' g
  have yc := hC.y' g
  by_cases h1 : a = b ∧ a2 + b2 = 0
  · rw [cv_vert qx qy h1, add_vert h1, cv_none, mul2_one]
    by_cases h2 : b = c ∧ b2 + c2 = 0
    · rw [cv_vert qx qy h2, add_vert h2, cv_none', mul2_one]; exact .refl g _
    · obtain ⟨e, e2, l, m, he, L⟩ := add_ln g hB.1 hC.1 h2
      have e1 : a2 = -b2 := by have := h1.2; clear h2 hass; grobner
      obtain ⟨rfl, _⟩ := h1
      subst e1
      rw [he, cv_ln g qx qy L yb, cv_ln g qx qy L.flip ya]
      refine Q2.symm g ?_
      have := flip_real g hq0 (L := l * -qx + m)
      rw [show -l * -qx + -m = -(l * -qx + m) by clear this hass; grobner, show -(-(l * -qx + m)) = l * -qx + m by clear this hass; grobner]
      exact this
  · obtain ⟨d, d2, l, m, hd, L⟩ := add_ln g hA.1 hB.1 h1
    rw [hd] at hass hAB ⊢
    have yd := hAB.y' g
    by_cases h2 : b = c ∧ b2 + c2 = 0
    · have e1 : c2 = -b2 := by have := h2.2; clear h1 hass; grobner
      obtain ⟨rfl, _⟩ := h2
      subst e1
      rw [cv_vert qx qy ⟨rfl, by clear hass; grobner⟩, add_vert ⟨rfl, by clear hass; grobner⟩, cv_none', mul2_one, cv_ln g qx qy L ya, cv_ln g qx qy L.swap.flip.swap yd]
      have := flip_real g hq0 (L := l * -qx + m)
      rw [show -l * -qx + -m = -(l * -qx + m) by clear this hass; grobner, show -(-(l * -qx + m)) = l * -qx + m by clear this hass; grobner]
      exact this
    · obtain ⟨e, e2, l3, m3, he, L3⟩ := add_ln g hB.1 hC.1 h2
      rw [he] at hass hBC ⊢
      have ye := hBC.y' g
      by_cases h3 : d = c ∧ d2 + c2 = 0
      · rw [add_vert h3] at hass
        have h4 := vert_add hass.symm
        rw [cv_vert qx qy h3, cv_vert qx qy h4, mul2_one, mul2_one]
        have e1 : c2 = -d2 := by have := h3.2; clear h1 h2 hass; grobner
        obtain ⟨rfl, _⟩ := h3
        subst e1
        rw [cv_ln g qx qy L ya, cv_ln g qx qy L.rot yb]
        exact .refl g _
      · by_cases h5 : a = b ∧ b = c
        · obtain ⟨rfl, rfl⟩ := h5
          have e1 : b2 = a2 := by
            rcases y_cases g.prime hA.1 hB.1 with h | h
            · exact h.symm
            · exact absurd ⟨rfl, h⟩ h1
          subst e1
          have e1 : c2 = b2 := by
            rcases y_cases g.prime hB.1 hC.1 with h | h
            · exact h.symm
            · exact absurd ⟨rfl, h⟩ h2
          subst e1
          rw [hd] at he
          cases he
          rw [cv_comm g qx qy hAB.1 hA.1 (hAB.y g) (hA.y g)]
          exact .refl g _
        · obtain ⟨f, f2, l2, m2, hf, L2⟩ := add_ln g hAB.1 hC.1 h3
          rw [hf] at hass
          have h4 : ¬ (e = a ∧ e2 + a2 = 0) := by
            rintro ⟨r1, r2⟩
            rw [add_vert ⟨r1.symm, by rw [← r2]; clear hass h1 h2 h3 h5; grobner⟩] at hass
            cases hass
          obtain ⟨f', f2', l4, m4, hf', L4⟩ := add_ln g hBC.1 hA.1 h4
          rw [addE_comm g hA.1 hBC.1, hf'] at hass
          cases hass
          have hm := coc_main g.prime g.two g.noI L L2 L3 L4 ya yb yc yd ye h5 (-qx)
          have v1 := cv_ln g qx qy L ya
          have v2 := cv_ln g qx qy L2 yd
          have v3 := cv_ln g qx qy L3 yb
          have v4 := cv_ln g qx qy L4.swap ya
          have n1 := mul2_ne g (cv_ne qx qy g hq0 (some (a, a2)) (some (b, b2))) (cv_ne qx qy g hq0 (some (d, d2)) (some (c, c2)))
          have n2 := mul2_ne g (cv_ne qx qy g hq0 (some (b, b2)) (some (c, c2))) (cv_ne qx qy g hq0 (some (a, a2)) (some (e, e2)))
          refine Q2.cross g n1 n2 ?_
          rw [v1, v2, v3, v4]
          have hX : -qx * -qx * -qx + -qx = -(qy * qy) := by rw [hq]; clear hm v1 v2 v3 v4 n1 n2 hq; grobner
          rw [hX] at hm
          clear v1 v2 v3 v4 n1 n2 hX
          generalize l * -qx + m = z1 at *
          generalize l2 * -qx + m2 = z2 at *
          generalize l3 * -qx + m3 = z3 at *
          generalize l4 * -qx + m4 = z4 at *
          show (-z1 * -z2 - qy * qy) * (-z3 * qy + qy * -z4) = (-z1 * qy + qy * -z2) * (-z3 * -z4 - qy * qy)
          have t : (-z1 * -z2 - qy * qy) * (-z3 * qy + qy * -z4) - (-z1 * qy + qy * -z2) * (-z3 * -z4 - qy * qy) = qy * ((z1 + z2) * (-(qy * qy) + z3 * z4) - (z3 + z4) * (-(qy * qy) + z1 * z2)) := by
            clear hm hq; grobner
          rw [hm] at t
          clear hm hq; grobner
end
end Obol

