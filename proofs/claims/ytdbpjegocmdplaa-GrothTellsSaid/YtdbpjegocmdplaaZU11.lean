/- Texts joined: ZTCoc, ZTBil, ZTPairH, ZTCurY, ZTGroN, ZTGroO, ZTOpnG. -/
import Derived.Test.YtdbpjegocmdplaaZU10
import Derived.Test.YtdbpjegocmdplaaProg
import Derived.KernelRfl
import Derived.Test.YtdbpjegocmdplaaZU5
import Derived.Test.YtdbpjegocmdplaaZU1
section
/- Lines through points of the curve, at a point that is turned: a cocycle but for what is real, without any program. -/
namespace Obol
section
variable {n : Nat} [NeZero n] {s : Fin n}
/-- a line that is no wall, y = l x + m, through two points and the opposite of their sum -/
structure Ln (a a2 b b2 d d2 l m : Fin n) : Prop where
  pa : a2 = l * a + m
  pb : b2 = l * b + m
  pd : d2 = -(l * d + m)
  c1 : a + b + d = l * l
  c2 : a * b + a * d + b * d = 1 - 2 * l * m
  c3 : a * b * d = m * m
theorem ln_chord {a a2 b b2 l i : Fin n} (h1 : a2 * a2 = a * a * a + a) (h2 : b2 * b2 = b * b * b + b) (hi : (b - a) * i = 1) (hl : l = (b2 - a2) * i) :
    Ln a a2 b b2 (l * l - a - b) (l * (a - (l * l - a - b)) - a2) l (a2 - l * a) where
  pa := by grobner
  pb := by grobner
  pd := by grobner
  c1 := by grobner
  c2 := by grobner
  c3 := by grobner
theorem ln_tan {a a2 l i : Fin n} (h1 : a2 * a2 = a * a * a + a) (hi : (a2 + a2) * i = 1) (hl : l = (3 * (a * a) + 1) * i) :
    Ln a a2 a a2 (l * l - a - a) (l * (a - (l * l - a - a)) - a2) l (a2 - l * a) where
  pa := by grobner
  pb := by grobner
  pd := by grobner
  c1 := by grobner
  c2 := by grobner
  c3 := by grobner
theorem Ln.nm {a a2 b b2 d d2 l m : Fin n} (h : Ln a a2 b b2 d d2 l m) (X : Fin n) : X * X * X + X - (l * X + m) * (l * X + m) = (X - a) * (X - b) * (X - d) := by
  obtain ⟨_, _, _, c1, c2, c3⟩ := h
  have e : X * X * X + X - (l * X + m) * (l * X + m) - (X - a) * (X - b) * (X - d) = X * X * (a + b + d - l * l) - X * (a * b + a * d + b * d - (1 - 2 * l * m)) + (a * b * d - m * m) := by clear c1 c2 c3; grobner
  rw [c1, c2, c3] at e
  grobner
theorem Ln.swap {a a2 b b2 d d2 l m : Fin n} (h : Ln a a2 b b2 d d2 l m) : Ln b b2 a a2 d d2 l m := by
  obtain ⟨pa, pb, pd, c1, c2, c3⟩ := h
  exact ⟨pb, pa, pd, by rw [← c1]; grobner, by rw [← c2]; grobner, by rw [← c3]; grobner⟩
structure Two (a a2 b b2 c c2 f l1 m1 l2 m2 d u v : Fin n) : Prop where
  k3 : 2 * u - (l1 + l2) * (l1 + l2) = -(a + b + c + f)
  k2 : u * u + 2 * v = a * b + a * c + a * f + b * c + b * f + c * f
  k1 : 2 * u * v - (l1 + l2) * (l1 + l2) = -(a * b * c + a * b * f + a * c * f + b * c * f)
  k0 : v * v = a * b * c * f
  za : a * a + u * a + v = (l1 + l2) * a2
  zb : b * b + u * b + v = (l1 + l2) * b2
  zc : c * c + u * c + v = (l1 + l2) * c2
  pr : ∀ X : Fin n, X * X * X + X + (l1 * X + m1) * (l2 * X + m2) = (X - d) * (X * X + u * X + v)
  su : ∀ X : Fin n, l1 * X + m1 + (l2 * X + m2) = (l1 + l2) * (X - d)
theorem t_v {a b c d f l1 l2 m1 m2 : Fin n} (hm : m2 = -(l1 + l2) * d - m1) (hs : a + b = l1 * l1 - d) (ht : c + f = l2 * l2 - d) (hp : a * b = 1 - 2 * l1 * m1 - (a + b) * d) (hq : c * f = 1 - 2 * l2 * m2 - (c + f) * d) :
    a * b + (l1 + l2) * m1 = c * f + (l1 + l2) * m2 := by rw [hp, hq, hs, ht, hm]; clear hp hq hs ht hm; grobner
theorem t_k2 {p q μ u v d l1 l2 m1 m2 A B : Fin n} (hμ : μ = l1 + l2) (hA : A = μ * l1 - u) (hB : B = μ * l2 - u) (hu : u = d + l1 * l2) (hp : p = v - μ * m1) (hq : q = v - μ * m2) (hm : m2 = -μ * d - m1) :
    u * u + 2 * v = p + A * B + q := by subst hA hB hp hq hm hu hμ; grobner
theorem t_k1 {p q μ u v d l1 l2 m1 m2 A B : Fin n} (hμ : μ = l1 + l2) (hA : A = μ * l1 - u) (hB : B = μ * l2 - u) (hu : u = d + l1 * l2) (hp : p = v - μ * m1) (hq : q = v - μ * m2) (hm : m2 = -μ * d - m1) (hv : v - m1 * l2 - l1 * m2 - u * d = 1) :
    2 * u * v - μ * μ = -(p * B + A * q) := by
  have e : 2 * u * v - μ * μ * (v - m1 * l2 - l1 * m2 - u * d) = -(p * B + A * q) := by clear hv; subst hA hB hp hq hm hu hμ; grobner
  rw [hv] at e; grobner
theorem t_k0 {p q μ v d m1 m2 : Fin n} (hp : p = v - μ * m1) (hq : q = v - μ * m2) (hm : m2 = -μ * d - m1) (hd : d * v = -(m1 * m2)) : v * v = p * q := by
  have e : v * v - p * q = -(μ * μ) * (d * v + m1 * m2) := by clear hd; subst hp hq hm; grobner
  rw [hd] at e; grobner
theorem two_lines {a a2 b b2 c c2 d d2 f f2 l1 l2 m1 m2 : Fin n} (L1 : Ln a a2 b b2 d d2 l1 m1) (L2 : Ln d d2 c c2 f f2 l2 m2) :
    Two a a2 b b2 c c2 f l1 m1 l2 m2 d (d + l1 * l2) (a * b + (l1 + l2) * m1) := by
  have n1 := L1.nm
  have n2 := L2.nm
  obtain ⟨pa, pb, pd, c1, c2', c3⟩ := L1
  obtain ⟨qd, qc, qf, e1, e2, e3⟩ := L2
  have hm : m2 = -(l1 + l2) * d - m1 := by clear c1 c2' c3 e1 e2 e3 n1 n2; grobner
  have hs : a + b = l1 * l1 - d := by clear c2' c3 e1 e2 e3 n1 n2 pa pb pd qd qc qf; grobner
  have ht : c + f = l2 * l2 - d := by clear c1 c2' c3 e2 e3 n1 n2 pa pb pd qd qc qf; grobner
  have hp : a * b = 1 - 2 * l1 * m1 - (a + b) * d := by clear c1 c3 e1 e2 e3 n1 n2 pa pb pd qd qc qf hm hs ht; grobner
  have hq : c * f = 1 - 2 * l2 * m2 - (c + f) * d := by clear c1 c2' c3 e1 e3 n1 n2 pa pb pd qd qc qf hm hs ht; grobner
  have hv := t_v hm hs ht hp hq
  have hv1 : a * b + (l1 + l2) * m1 - m1 * l2 - l1 * m2 - (d + l1 * l2) * d = 1 := by
    rw [hp, hs, hm]; clear c1 c2' c3 e1 e2 e3 n1 n2 pa pb pd qd qc qf hm hs ht hp hq hv; grobner
  have hd : d * (a * b + (l1 + l2) * m1) = -(m1 * m2) := by
    have : d * (a * b + (l1 + l2) * m1) = a * b * d + (l1 + l2) * d * m1 := by clear c1 c2' c3 e1 e2 e3 n1 n2 pa pb pd qd qc qf hm hs ht hp hq hv hv1; grobner
    rw [this, c3, hm]; clear c1 c2' c3 e1 e2 e3 n1 n2 pa pb pd qd qc qf hm hs ht hp hq hv hv1 this; grobner
  have hA : a + b = (l1 + l2) * l1 - (d + l1 * l2) := by rw [hs]; clear c1 c2' c3 e1 e2 e3 n1 n2 pa pb pd qd qc qf hm hs ht hp hq hv hv1 hd; grobner
  have hB : c + f = (l1 + l2) * l2 - (d + l1 * l2) := by rw [ht]; clear c1 c2' c3 e1 e2 e3 n1 n2 pa pb pd qd qc qf hm hs ht hp hq hv hv1 hd; grobner
  have hP : a * b = a * b + (l1 + l2) * m1 - (l1 + l2) * m1 := by clear c1 c2' c3 e1 e2 e3 n1 n2 pa pb pd qd qc qf hm hs ht hp hq hv hv1 hd hA hB; grobner
  have hQ : c * f = a * b + (l1 + l2) * m1 - (l1 + l2) * m2 := by rw [hv]; clear c1 c2' c3 e1 e2 e3 n1 n2 pa pb pd qd qc qf hm hs ht hp hq hv hv1 hd hA hB; grobner
  have K2 := t_k2 rfl hA hB rfl hP hQ hm
  have K1 := t_k1 rfl hA hB rfl hP hQ hm hv1
  have K0 := t_k0 hP hQ hm hd
  clear n1 n2 hv1 hp hq
  constructor
  · have : -(a + b + c + f) = -((a + b) + (c + f)) := by clear pa pb pd c1 c2' c3 qd qc qf e1 e2 e3 hm hs ht hv hd hA hB hP hQ K2 K1 K0; grobner
    rw [this, hs, ht]; clear pa pb pd c1 c2' c3 qd qc qf e1 e2 e3 hm hs ht hv hd hA hB hP hQ K2 K1 K0; grobner
  · rw [K2]; clear pa pb pd c1 c2' c3 qd qc qf e1 e2 e3 hm hs ht hv hd hA hB hP hQ K2 K1 K0; grobner
  · rw [K1]; clear pa pb pd c1 c2' c3 qd qc qf e1 e2 e3 hm hs ht hv hd hA hB hP hQ K2 K1 K0; grobner
  · rw [K0]; clear pa pb pd c1 c2' c3 qd qc qf e1 e2 e3 hm hs ht hv hd hA hB hP hQ K2 K1 K0; grobner
  · have : d + l1 * l2 = (l1 + l2) * l1 - (a + b) := by rw [hA]; clear pa pb pd c1 c2' c3 qd qc qf e1 e2 e3 hm hs ht hv hd hA hB hP hQ K2 K1 K0; grobner
    rw [this, pa]; clear pa pb pd c1 c2' c3 qd qc qf e1 e2 e3 hm hs ht hv hd hA hB hP hQ K2 K1 K0; grobner
  · have : d + l1 * l2 = (l1 + l2) * l1 - (a + b) := by rw [hA]; clear pa pb pd c1 c2' c3 qd qc qf e1 e2 e3 hm hs ht hv hd hA hB hP hQ K2 K1 K0; grobner
    rw [this, pb]; clear pa pb pd c1 c2' c3 qd qc qf e1 e2 e3 hm hs ht hv hd hA hB hP hQ K2 K1 K0; grobner
  · have : d + l1 * l2 = (l1 + l2) * l2 - (c + f) := by rw [hB]; clear pa pb pd c1 c2' c3 qd qc qf e1 e2 e3 hm hs ht hv hd hA hB hP hQ K2 K1 K0; grobner
    rw [this, hv, qc]; clear pa pb pd c1 c2' c3 qd qc qf e1 e2 e3 hm hs ht hv hd hA hB hP hQ K2 K1 K0; grobner
  · intro X
    have h0 : (l1 + l2) * l1 - (a + b) = d + l1 * l2 := by rw [hA]; clear pa pb pd c1 c2' c3 qd qc qf e1 e2 e3 hm hs ht hv hd hA hB hP hQ K2 K1 K0; grobner
    have e : X * X * X + X + (l1 * X + m1) * (l2 * X + m2) = X * X * X + X - (l1 * X + m1) * (l1 * X + m1) + (l1 * X + m1) * ((l1 + l2) * X + (m1 + m2)) := by clear pa pb pd c1 c2' c3 qd qc qf e1 e2 e3 hm hs ht hv hd hA hB hP hQ K2 K1 K0; grobner
    have n1 : X * X * X + X - (l1 * X + m1) * (l1 * X + m1) = (X - a) * (X - b) * (X - d) := Ln.nm (a2 := a2) (b2 := b2) (d2 := d2) ⟨pa, pb, pd, c1, c2', c3⟩ X
    rw [e, n1, hm, ← h0]; clear e n1 h0 pa pb pd c1 c2' c3 qd qc qf e1 e2 e3 hm hs ht hv hd hA hB hP hQ K2 K1 K0; grobner
  · intro X; rw [hm]; clear pa pb pd c1 c2' c3 qd qc qf e1 e2 e3 hm hs ht hv hd hA hB hP hQ K2 K1 K0; grobner
theorem core_eq {u v μ ν a a2 : Fin n} (hp : IsPrime n) (za : a * a + u * a + v = μ * a2) (za' : a * a + u * a + v = ν * a2) (ya : a2 ≠ 0) : μ = ν := by
  have h := za.symm.trans za'
  exact eq_of_mul hp ya h
theorem core_s {u μ ν a a2 : Fin n} (hp : IsPrime n) (h2 : (2 : Fin n) ≠ 0) (hu : u ≠ 0) (hk : (μ - ν) * (μ + ν) = 4 * u) (za : a * a + u * a + 1 = μ * a2) (za' : a * a + -u * a + 1 = ν * a2) : 2 * a2 = (μ + ν) * a := by
  have h : 2 * u * a = (μ - ν) * a2 := by clear hk; grobner
  have e : 2 * u * ((μ + ν) * a) = 2 * u * (2 * a2) := by
    have : 2 * u * ((μ + ν) * a) = (μ + ν) * (2 * u * a) := by clear h hk za za'; grobner
    rw [this, h]
    have : (μ + ν) * ((μ - ν) * a2) = (μ - ν) * (μ + ν) * a2 := by clear h hk za za' this; grobner
    rw [this, hk]; clear h hk za za' this; grobner
  exact (fin_cancel hp (fin_mul_ne_zero hp h2 hu) e).symm
theorem core {u v u' v' μ ν a a2 b b2 c c2 : Fin n} (hp : IsPrime n) (h2 : (2 : Fin n) ≠ 0) (hI : ∀ x : Fin n, x * x + 1 ≠ 0)
    (e3 : 2 * u - μ * μ = 2 * u' - ν * ν) (e2 : u * u + 2 * v = u' * u' + 2 * v') (e1 : 2 * u * v - μ * μ = 2 * u' * v' - ν * ν) (e0 : v * v = v' * v')
    (za : a * a + u * a + v = μ * a2) (za' : a * a + u' * a + v' = ν * a2) (zb : b * b + u * b + v = μ * b2) (zb' : b * b + u' * b + v' = ν * b2)
    (zc : c * c + u * c + v = μ * c2) (zc' : c * c + u' * c + v' = ν * c2) (ya : a2 ≠ 0) :
    (μ = ν ∧ u = u' ∧ v = v') ∨ (∃ s : Fin n, a2 = s * a ∧ b2 = s * b ∧ c2 = s * c) := by
  have h0 : (v - v') * (v + v') = 0 := by clear e3 e2 e1 za za' zb zb' zc zc'; grobner
  by_cases hv : v = v'
  · subst hv
    have h1 : (u - u') * (u + u') = 0 := by clear e3 e1 e0 h0 za za' zb zb' zc zc'; grobner
    by_cases hu : u = u'
    · subst hu
      exact .inl ⟨core_eq hp za za' ya, rfl, rfl⟩
    · right
      have hs : u + u' = 0 := by
        rcases fin_mul_eq_zero hp h1 with h | h
        · exact absurd (by clear e3 e2 e1 e0 h0 za za' zb zb' zc zc' h1; grobner) hu
        · exact h
      obtain rfl : u' = -u := by clear e3 e2 e1 e0 h0 za za' zb zb' zc zc' h1; grobner
      have hu0 : u ≠ 0 := by rintro rfl; exact hu (by clear e3 e2 e1 e0 h0 za za' zb zb' zc zc' h1 hs; grobner)
      have hk : (μ - ν) * (μ + ν) = 4 * u := by clear e2 e1 e0 h0 za za' zb zb' zc zc' h1 hs; grobner
      have hv1 : 2 * (2 * u) * v = 2 * (2 * u) * 1 := by
        have : 2 * (2 * u) * v = (2 * u * v - μ * μ) - (2 * -u * v - ν * ν) + (μ - ν) * (μ + ν) := by clear e3 e2 e1 e0 h0 za za' zb zb' zc zc' h1 hs hk; grobner
        rw [this, e1, hk]; clear e3 e2 e1 e0 h0 za za' zb zb' zc zc' h1 hs hk this; grobner
      have hv1 : v = 1 := fin_cancel hp (fin_mul_ne_zero hp h2 (fin_mul_ne_zero hp h2 hu0)) hv1
      subst hv1
      obtain ⟨i, hi⟩ := fin_inv hp h2
      have sa := core_s hp h2 hu0 hk za za'
      have sb := core_s hp h2 hu0 hk zb zb'
      have sc := core_s hp h2 hu0 hk zc zc'
      clear e3 e2 e1 e0 h0 za za' zb zb' zc zc' h1 hs hk
      refine ⟨(μ + ν) * i, ?_, ?_, ?_⟩
      · clear sb sc; grobner
      · clear sa sc; grobner
      · clear sa sb; grobner
  · exfalso
    have hs : v + v' = 0 := by
      rcases fin_mul_eq_zero hp h0 with h | h
      · exact absurd (by clear e3 e2 e1 e0 h0 za za' zb zb' zc zc'; grobner) hv
      · exact h
    obtain rfl : v' = -v := by clear e3 e2 e1 e0 h0 za za' zb zb' zc zc'; grobner
    have hv0 : v ≠ 0 := by rintro rfl; exact hv (by clear e3 e2 e1 e0 h0 za za' zb zb' zc zc' hs; grobner)
    have g1 : 2 * (v * (u + u')) = 2 * (u - u') := by clear e2 e0 h0 za za' zb zb' zc zc' hs; grobner
    have g1 := fin_cancel hp h2 g1
    have g2 : (u - u') * (u + u') = -(4 * v) := by clear e3 e1 e0 h0 za za' zb zb' zc zc' hs g1; grobner
    have g3 : v * ((u + u') * (u + u')) = v * (-4) := by
      rw [← g1] at g2; clear e3 e2 e1 e0 h0 za za' zb zb' zc zc' hs g1; grobner
    have g3 := fin_cancel hp hv0 g3
    obtain ⟨i, hi⟩ := fin_inv hp h2
    refine hI ((u + u') * i) ?_
    clear e3 e2 e1 e0 h0 za za' zb zb' zc zc' hs g1 g2
    have : (u + u') * i * ((u + u') * i) + 1 = (u + u') * (u + u') * (i * i) + 1 := by clear g3 hi; grobner
    rw [this, g3]; clear g3 this; grobner
theorem no_s {a a2 b b2 d d2 l m s : Fin n} (hp : IsPrime n) (L : Ln a a2 b b2 d d2 l m) (ha : a2 = s * a) (hb : b2 = s * b) (ya : a2 ≠ 0) (yb : b2 ≠ 0) (yd : d2 ≠ 0) : a = b := by
  apply Classical.byContradiction
  intro h
  obtain ⟨pa, pb, pd, c1, c2, c3⟩ := L
  have e : (a - b) * l = (a - b) * s := by clear c1 c2 c3 pd; grobner
  have e : l = s := fin_cancel hp (fun e => h (by clear c1 c2 c3 pd pa pb ha hb; grobner)) e
  subst e
  have hm : m = 0 := by clear c1 c2 c3 pd; grobner
  subst hm
  have ha0 : a ≠ 0 := fun e => ya (by rw [ha, e]; clear c1 c2 c3 pd pa pb ha hb e; grobner)
  have hb0 : b ≠ 0 := fun e => yb (by rw [hb, e]; clear c1 c2 c3 pd pa pb ha hb e; grobner)
  have hd : d = 0 := by
    rcases fin_mul_eq_zero hp (c3.trans (by clear c1 c2 c3 pd pa pb ha hb; grobner : (0 : Fin n) * 0 = 0)) with h | h
    · exact absurd h (fin_mul_ne_zero hp ha0 hb0)
    · exact h
  exact yd (by rw [pd, hd]; clear c1 c2 c3 pd pa pb ha hb hd; grobner)
theorem coc_main {a a2 b b2 c c2 d d2 e e2 f f2 l1 l2 l3 l4 m1 m2 m3 m4 : Fin n} (hp : IsPrime n) (h2 : (2 : Fin n) ≠ 0) (hI : ∀ x : Fin n, x * x + 1 ≠ 0)
    (L1 : Ln a a2 b b2 d d2 l1 m1) (L2 : Ln d d2 c c2 f f2 l2 m2) (L3 : Ln b b2 c c2 e e2 l3 m3) (L4 : Ln e e2 a a2 f f2 l4 m4)
    (ya : a2 ≠ 0) (yb : b2 ≠ 0) (yc : c2 ≠ 0) (yd : d2 ≠ 0) (ye : e2 ≠ 0) (hne : ¬ (a = b ∧ b = c)) (X : Fin n) :
    (l1 * X + m1 + (l2 * X + m2)) * (X * X * X + X + (l3 * X + m3) * (l4 * X + m4)) = (l3 * X + m3 + (l4 * X + m4)) * (X * X * X + X + (l1 * X + m1) * (l2 * X + m2)) := by
  have T := two_lines L1 L2
  have S := two_lines L3 L4
  have hc := core hp h2 hI (u := d + l1 * l2) (v := a * b + (l1 + l2) * m1) (u' := e + l3 * l4) (v' := b * c + (l3 + l4) * m3) (μ := l1 + l2) (ν := l3 + l4)
    (by rw [T.k3, S.k3]; clear T S L1 L2 L3 L4; grobner) (by rw [T.k2, S.k2]; clear T S L1 L2 L3 L4; grobner) (by rw [T.k1, S.k1]; clear T S L1 L2 L3 L4; grobner) (by rw [T.k0, S.k0]; clear T S L1 L2 L3 L4; grobner)
    T.za S.zc T.zb S.za T.zc S.zb ya
  rcases hc with ⟨h1, h3, h4⟩ | ⟨s, sa, sb, sc⟩
  · rw [T.su, T.pr, S.su, S.pr, h4, h1, h3]
    clear T S L1 L2 L3 L4; grobner
  · have hab := no_s hp L1 sa sb ya yb yd
    have hbc := no_s hp L3 sb sc yb yc ye
    exact absurd ⟨hab, hbc⟩ hne
/-- the same, but for what is real -/
def Q2 (u v : E2 n) : Prop := ∃ c : Fin n, c ≠ 0 ∧ u = mul2 (c, 0) v
theorem Q2.refl (g : Good n s) (u : E2 n) : Q2 u u := ⟨1, g.one_ne, (one_mul2 u).symm⟩
theorem Q2.symm (g : Good n s) {u v : E2 n} (h : Q2 u v) : Q2 v u := by
  obtain ⟨c, hc, rfl⟩ := h
  obtain ⟨i, hi⟩ := fin_inv g.prime hc
  refine ⟨i, fun e => ?_, ?_⟩
  · subst e
    exact g.one_ne (hi.symm.trans (mul_zero' c))
  · rw [← mul2_assoc, show mul2 ((i, 0) : E2 n) (c, 0) = (1, 0) from Prod.ext (by simp only [mul2]; grobner) (by simp only [mul2]; clear hi; grobner), one_mul2]
theorem Q2.trans (g : Good n s) {u v w : E2 n} (h : Q2 u v) (k : Q2 v w) : Q2 u w := by
  obtain ⟨c, hc, rfl⟩ := h
  obtain ⟨d, hd, rfl⟩ := k
  refine ⟨c * d, fin_mul_ne_zero g.prime hc hd, ?_⟩
  rw [← mul2_assoc]
  congr 1
  exact Prod.ext (by simp only [mul2]; grobner) (by simp only [mul2]; grobner)
theorem Q2.mul (g : Good n s) {u v u' v' : E2 n} (h : Q2 u v) (k : Q2 u' v') : Q2 (mul2 u u') (mul2 v v') := by
  obtain ⟨c, hc, rfl⟩ := h
  obtain ⟨d, hd, rfl⟩ := k
  refine ⟨c * d, fin_mul_ne_zero g.prime hc hd, ?_⟩
  rw [mul2_swap]
  congr 1
  exact Prod.ext (by simp only [mul2]; grobner) (by simp only [mul2]; grobner)
theorem Q2.of_eq (g : Good n s) {u v : E2 n} (h : u = v) : Q2 u v := h ▸ .refl g u
theorem inv_two (g : Good n s) {v : E2 n} (h : v ≠ (0, 0)) : ∃ i : E2 n, mul2 v i = (1, 0) := by
  obtain ⟨k, hk⟩ := fin_inv g.prime (norm_ne g.prime g.noI h)
  refine ⟨(v.1 * k, -v.2 * k), Prod.ext ?_ ?_⟩
  · show v.1 * (v.1 * k) - v.2 * (-v.2 * k) = 1
    rw [← hk]; clear hk; grobner
  · show v.1 * (-v.2 * k) + v.2 * (v.1 * k) = 0
    clear hk; grobner
theorem mul2_ne (g : Good n s) {u v : E2 n} (hu : u ≠ (0, 0)) (hv : v ≠ (0, 0)) : mul2 u v ≠ (0, 0) := by
  intro e
  obtain ⟨i, hi⟩ := inv_two g hv
  have : mul2 (mul2 u v) i = u := by rw [mul2_assoc, hi, mul2_one]
  rw [e, mul2_comm, mul2_zero] at this
  exact hu this.symm
theorem Q2.cross (g : Good n s) {u v : E2 n} (hu : u ≠ (0, 0)) (hv : v ≠ (0, 0)) (h : u.1 * v.2 = u.2 * v.1) : Q2 u v := by
  have hN := norm_ne g.prime g.noI hv
  obtain ⟨k, hk⟩ := fin_inv g.prime hN
  have e : u = mul2 ((u.1 * v.1 + u.2 * v.2) * k, 0) v := by
    refine Prod.ext ?_ ?_
    · show u.1 = (u.1 * v.1 + u.2 * v.2) * k * v.1 - 0 * v.2
      have : (u.1 * v.1 + u.2 * v.2) * k * v.1 - 0 * v.2 = (v.1 * v.1 + v.2 * v.2) * k * u.1 + (u.2 * v.1 - u.1 * v.2) * (k * v.2) := by clear hk h; grobner
      rw [this, hk, h]; clear hk h this; grobner
    · show u.2 = (u.1 * v.1 + u.2 * v.2) * k * v.2 + 0 * v.1
      have : (u.1 * v.1 + u.2 * v.2) * k * v.2 + 0 * v.1 = (v.1 * v.1 + v.2 * v.2) * k * u.2 + (u.1 * v.2 - u.2 * v.1) * (k * v.1) := by clear hk h; grobner
      rw [this, hk, h]; clear hk h this; grobner
  refine ⟨_, fun e0 => ?_, e⟩
  rw [e0, mul2_comm, mul2_zero] at e
  exact hu e
/-! the line's value -/
def lamQ (a a2 b b2 : Fin n) : Fin n := if a = b then (3 * (a * a) + 1) * finv (a2 + a2) else (b2 - a2) * finv (b - a)
def cv (qx qy : Fin n) : EPt n → EPt n → E2 n
  | some (a, a2), some (b, b2) => if a = b ∧ a2 + b2 = 0 then (1, 0) else (lamQ a a2 b b2 * (qx + a) - a2, qy)
  | _, _ => (1, 0)
theorem cv_none (qx qy : Fin n) (B : EPt n) : cv qx qy none B = (1, 0) := by cases B <;> rfl
theorem cv_none' (qx qy : Fin n) (A : EPt n) : cv qx qy A none = (1, 0) := by cases A <;> rfl
theorem two_ne (g : Good n s) {y : Fin n} (h : y ≠ 0) : y + y ≠ 0 := by
  intro e
  exact fin_mul_ne_zero g.prime g.two h (by rw [← e]; clear e; grobner)
theorem Ln.lam (g : Good n s) {a a2 b b2 d d2 l m : Fin n} (h : Ln a a2 b b2 d d2 l m) (ya : a2 ≠ 0) : l = lamQ a a2 b b2 := by
  obtain ⟨pa, pb, pd, c1, c2, c3⟩ := h
  unfold lamQ
  split
  · rename_i e
    subst e
    have hy := two_ne g ya
    have e : 3 * (a * a) + 1 = l * (a2 + a2) := by
      have : l * (a2 + a2) = 2 * (l * l) * a + 2 * l * m := by rw [pa]; clear pa pb pd c1 c2 c3; grobner
      rw [this, ← c1, show 2 * l * m = 1 - (a * a + a * d + a * d) by rw [c2]; clear pa pb pd c1 c2 c3 this; grobner]
      clear pa pb pd c1 c2 c3 this; grobner
    exact (mul_finv_eq g.prime hy e).symm
  · rename_i e
    have hd : b - a ≠ 0 := fun h => e (by clear pa pb pd c1 c2 c3; grobner)
    exact (mul_finv_eq g.prime hd (by rw [pa, pb]; clear pa pb pd c1 c2 c3; grobner)).symm
theorem cv_ln (g : Good n s) (qx qy : Fin n) {a a2 b b2 d d2 l m : Fin n} (h : Ln a a2 b b2 d d2 l m) (ya : a2 ≠ 0) : cv qx qy (some (a, a2)) (some (b, b2)) = (-(l * -qx + m), qy) := by
  have e := h.lam g ya
  show (if a = b ∧ a2 + b2 = 0 then (1, 0) else (lamQ a a2 b b2 * (qx + a) - a2, qy)) = _
  rw [if_neg, ← e, h.pa]
  · exact Prod.ext (by show l * (qx + a) - (l * a + m) = -(l * -qx + m); clear e; grobner) rfl
  · rintro ⟨rfl, h1⟩
    exact two_ne g ya (by rw [h.pb, ← h.pa] at h1; exact h1)
theorem add_ln (g : Good n s) {a a2 b b2 : Fin n} (ha : a2 * a2 = a * a * a + a) (hb : b2 * b2 = b * b * b + b) (h : ¬ (a = b ∧ a2 + b2 = 0)) :
    ∃ d d2 l m, addE (some (a, a2)) (some (b, b2)) = some (d, d2) ∧ Ln a a2 b b2 d d2 l m := by
  show ∃ d d2 l m, (if a = b then (if a2 + b2 = 0 then none else lineE ((3 * (a * a) + 1) * finv (a2 + a2)) a a2 b) else lineE ((b2 - a2) * finv (b - a)) a a2 b) = some (d, d2) ∧ Ln a a2 b b2 d d2 l m
  by_cases e : a = b
  · subst e
    have h1 : ¬ a2 + b2 = 0 := fun e => h ⟨rfl, e⟩
    have h2 : a2 = b2 := by
      rcases y_cases g.prime ha hb with h | h
      · exact h
      · exact absurd h h1
    subst h2
    rw [if_pos rfl, if_neg h1]
    exact ⟨_, _, _, _, rfl, ln_tan ha (finv_mul g.prime h1) rfl⟩
  · rw [if_neg e]
    have hd : b - a ≠ 0 := fun h => e (by clear ha hb; grobner)
    exact ⟨_, _, _, _, rfl, ln_chord ha hb (finv_mul g.prime hd) rfl⟩
theorem add_vert {a a2 b b2 : Fin n} (h : a = b ∧ a2 + b2 = 0) : addE (some (a, a2)) (some (b, b2)) = none := by
  show (if a = b then (if a2 + b2 = 0 then none else lineE ((3 * (a * a) + 1) * finv (a2 + a2)) a a2 b) else lineE ((b2 - a2) * finv (b - a)) a a2 b) = none
  rw [if_pos h.1, if_pos h.2]
theorem vert_add {a a2 b b2 : Fin n} (h : addE (some (a, a2)) (some (b, b2)) = none) : a = b ∧ a2 + b2 = 0 := by
  have h : (if a = b then (if a2 + b2 = 0 then none else lineE ((3 * (a * a) + 1) * finv (a2 + a2)) a a2 b) else lineE ((b2 - a2) * finv (b - a)) a a2 b) = none := h
  split at h
  · split at h
    · exact ⟨by assumption, by assumption⟩
    · cases h
  · cases h
theorem cv_vert (qx qy : Fin n) {a a2 b b2 : Fin n} (h : a = b ∧ a2 + b2 = 0) : cv qx qy (some (a, a2)) (some (b, b2)) = (1, 0) := by
  show (if a = b ∧ a2 + b2 = 0 then (1, 0) else (lamQ a a2 b b2 * (qx + a) - a2, qy)) = _
  rw [if_pos h]
theorem Ln.flip {a a2 b b2 d d2 l m : Fin n} (h : Ln a a2 b b2 d d2 l m) : Ln a (-a2) d d2 b b2 (-l) (-m) := by
  obtain ⟨pa, pb, pd, c1, c2, c3⟩ := h
  refine ⟨?_, ?_, ?_, ?_, ?_, ?_⟩
  · rw [pa]; clear pa pb pd c1 c2 c3; grobner
  · rw [pd]; clear pa pb pd c1 c2 c3; grobner
  · rw [pb]; clear pa pb pd c1 c2 c3; grobner
  · rw [show -l * -l = l * l by clear pa pb pd c1 c2 c3; grobner, ← c1]; clear pa pb pd c1 c2 c3; grobner
  · rw [show 1 - 2 * -l * -m = 1 - 2 * l * m by clear pa pb pd c1 c2 c3; grobner, ← c2]; clear pa pb pd c1 c2 c3; grobner
  · rw [show -m * -m = m * m by clear pa pb pd c1 c2 c3; grobner, ← c3]; clear pa pb pd c1 c2 c3; grobner
theorem Ln.rot {a a2 b b2 d d2 l m : Fin n} (h : Ln a a2 b b2 d d2 l m) : Ln b b2 d (-d2) a (-a2) l m := by
  obtain ⟨pa, pb, pd, c1, c2, c3⟩ := h
  refine ⟨pb, ?_, ?_, ?_, ?_, ?_⟩
  · rw [pd]; clear pa pb pd c1 c2 c3; grobner
  · rw [pa]
  · rw [← c1]; clear pa pb pd c1 c2 c3; grobner
  · rw [← c2]; clear pa pb pd c1 c2 c3; grobner
  · rw [← c3]; clear pa pb pd c1 c2 c3; grobner
theorem cv_comm (g : Good n s) (qx qy : Fin n) {A B : EPt n} (hA : onE A) (hB : onE B) (yA : ∀ x, A ≠ some (x, 0)) (yB : ∀ x, B ≠ some (x, 0)) : cv qx qy A B = cv qx qy B A := by
  cases A with
  | none => rw [cv_none, cv_none']
  | some A =>
  cases B with
  | none => rw [cv_none, cv_none']
  | some B =>
  obtain ⟨a, a2⟩ := A
  obtain ⟨b, b2⟩ := B
  have ya : a2 ≠ 0 := fun e => yA a (by rw [e])
  have yb : b2 ≠ 0 := fun e => yB b (by rw [e])
  by_cases h : a = b ∧ a2 + b2 = 0
  · rw [cv_vert qx qy h, cv_vert qx qy ⟨h.1.symm, by rw [← h.2]; clear h hA hB; grobner⟩]
  · obtain ⟨d, d2, l, m, _, L⟩ := add_ln g hA hB h
    rw [cv_ln g qx qy L ya, cv_ln g qx qy L.swap yb]
theorem cv_ne (qx qy : Fin n) (g : Good n s) (hq : qy ≠ 0) (A B : EPt n) : cv qx qy A B ≠ (0, 0) := by
  have h1 : ((1, 0) : E2 n) ≠ (0, 0) := fun e => g.one_ne (congrArg Prod.fst e)
  cases A with
  | none => rw [cv_none]; exact h1
  | some A =>
  cases B with
  | none => rw [cv_none']; exact h1
  | some B =>
  obtain ⟨a, a2⟩ := A
  obtain ⟨b, b2⟩ := B
  show (if a = b ∧ a2 + b2 = 0 then (1, 0) else (lamQ a a2 b b2 * (qx + a) - a2, qy)) ≠ (0, 0)
  split
  · exact h1
  · exact fun e => hq (congrArg Prod.snd e)
/-- points of an odd order -/
def Od (k : Nat) (A : EPt n) : Prop := onE A ∧ nsm A (2 * k + 1) = none
theorem nsm_none : ∀ k, nsm (none : EPt n) k = none
  | 0 => rfl
  | k + 1 => by rw [nsm_succ, nsm_none k]; rfl
theorem nsm_addE (g : Good n s) {A B : EPt n} (hA : onE A) (hB : onE B) : ∀ k, nsm (addE A B) k = addE (nsm A k) (nsm B k)
  | 0 => rfl
  | k + 1 => by
    have a1 := nsm_on g hA k
    have b1 := nsm_on g hB k
    rw [nsm_succ, nsm_succ, nsm_succ, nsm_addE g hA hB k, addE_assoc g a1 b1 (addE_on g hA hB), addE_assoc g a1 hA (addE_on g b1 hB), ← addE_assoc g b1 hA hB, addE_comm g b1 hA, addE_assoc g hA b1 hB]
theorem Od.add (g : Good n s) {k : Nat} {A B : EPt n} (hA : Od k A) (hB : Od k B) : Od k (addE A B) :=
  ⟨addE_on g hA.1 hB.1, by rw [nsm_addE g hA.1 hB.1, hA.2, hB.2]; rfl⟩
theorem Od.times (g : Good n s) {k : Nat} {A : EPt n} (hA : Od k A) : ∀ j, Od k (nsm A j)
  | 0 => ⟨trivial, nsm_none _⟩
  | j + 1 => (hA.times g j).add g hA
theorem Od.y (g : Good n s) {k : Nat} {A : EPt n} (hA : Od k A) (x : Fin n) : A ≠ some (x, 0) := by
  rintro rfl
  have h2 : nsm (some (x, (0 : Fin n))) 2 = none := by
    show addE (addE none (some (x, 0))) (some (x, 0)) = none
    exact add_vert ⟨rfl, by grobner⟩
  have := hA.2
  rw [nsm_add g hA.1, nsm_mul g hA.1, h2, nsm_none] at this
  cases this
theorem Od.y' (g : Good n s) {k : Nat} {x y : Fin n} (hA : Od k (some (x, y))) : y ≠ 0 := fun e => hA.y g x (by rw [e])
theorem flip_real (g : Good n s) {qy : Fin n} (hq0 : qy ≠ 0) {L : Fin n} : Q2 (mul2 ((-L, qy) : E2 n) (L, qy)) (1, 0) := by
  have e : mul2 ((-L, qy) : E2 n) (L, qy) = mul2 (-(L * L + qy * qy), 0) (1, 0) := Prod.ext (by simp only [mul2]; grobner) (by simp only [mul2]; grobner)
  refine ⟨_, fun h => ?_, e⟩
  exact norm_ne g.prime g.noI (a := (L, qy)) (fun e => hq0 (congrArg Prod.snd e)) (by show L * L + qy * qy = 0; clear e; grobner)
theorem coc (g : Good n s) {k : Nat} {qx qy : Fin n} (hq : qy * qy = qx * qx * qx + qx) (hq0 : qy ≠ 0) {A B C : EPt n} (hA : Od k A) (hB : Od k B) (hC : Od k C) :
    Q2 (mul2 (cv qx qy A B) (cv qx qy (addE A B) C)) (mul2 (cv qx qy B C) (cv qx qy A (addE B C))) := by
  cases A with
  | none => rw [cv_none, cv_none, none_addE, one_mul2, mul2_one]; exact .refl g _
  | some A =>
  cases B with
  | none => rw [cv_none, cv_none', none_addE, addE_none, one_mul2]; exact .refl g _
  | some B =>
  cases C with
  | none => rw [cv_none', cv_none', addE_none, mul2_one, one_mul2]; exact .refl g _
  | some C =>
  have hAB := hA.add g hB
  have hBC := hB.add g hC
  have hass := addE_assoc g hA.1 hB.1 hC.1
  obtain ⟨a, a2⟩ := A
  obtain ⟨b, b2⟩ := B
  obtain ⟨c, c2⟩ := C
  have ya := hA.y' g
  have yb := hB.y' g
  have yc := hC.y' g
  by_cases h1 : a = b ∧ a2 + b2 = 0
  · rw [cv_vert qx qy h1, add_vert h1, cv_none, mul2_one]
    by_cases h2 : b = c ∧ b2 + c2 = 0
    · rw [cv_vert qx qy h2, add_vert h2, cv_none', mul2_one]; exact .refl g _
    · obtain ⟨e, e2, l, m, he, L⟩ := add_ln g hB.1 hC.1 h2
      have e1 : a2 = -b2 := by have := h1.2; clear h2 hass; grobner
      obtain ⟨rfl, _⟩ := h1
      subst e1
      rw [he, cv_ln g qx qy L yb, cv_ln g qx qy L.flip ya]
      refine Q2.symm g ?_
      have := flip_real g hq0 (L := l * -qx + m)
      rw [show -l * -qx + -m = -(l * -qx + m) by clear this hass; grobner, show -(-(l * -qx + m)) = l * -qx + m by clear this hass; grobner]
      exact this
  · obtain ⟨d, d2, l, m, hd, L⟩ := add_ln g hA.1 hB.1 h1
    rw [hd] at hass hAB ⊢
    have yd := hAB.y' g
    by_cases h2 : b = c ∧ b2 + c2 = 0
    · have e1 : c2 = -b2 := by have := h2.2; clear h1 hass; grobner
      obtain ⟨rfl, _⟩ := h2
      subst e1
      rw [cv_vert qx qy ⟨rfl, by clear hass; grobner⟩, add_vert ⟨rfl, by clear hass; grobner⟩, cv_none', mul2_one, cv_ln g qx qy L ya, cv_ln g qx qy L.swap.flip.swap yd]
      have := flip_real g hq0 (L := l * -qx + m)
      rw [show -l * -qx + -m = -(l * -qx + m) by clear this hass; grobner, show -(-(l * -qx + m)) = l * -qx + m by clear this hass; grobner]
      exact this
    · obtain ⟨e, e2, l3, m3, he, L3⟩ := add_ln g hB.1 hC.1 h2
      rw [he] at hass hBC ⊢
      have ye := hBC.y' g
      by_cases h3 : d = c ∧ d2 + c2 = 0
      · rw [add_vert h3] at hass
        have h4 := vert_add hass.symm
        rw [cv_vert qx qy h3, cv_vert qx qy h4, mul2_one, mul2_one]
        have e1 : c2 = -d2 := by have := h3.2; clear h1 h2 hass; grobner
        obtain ⟨rfl, _⟩ := h3
        subst e1
        rw [cv_ln g qx qy L ya, cv_ln g qx qy L.rot yb]
        exact .refl g _
      · by_cases h5 : a = b ∧ b = c
        · obtain ⟨rfl, rfl⟩ := h5
          have e1 : b2 = a2 := by
            rcases y_cases g.prime hA.1 hB.1 with h | h
            · exact h.symm
            · exact absurd ⟨rfl, h⟩ h1
          subst e1
          have e1 : c2 = b2 := by
            rcases y_cases g.prime hB.1 hC.1 with h | h
            · exact h.symm
            · exact absurd ⟨rfl, h⟩ h2
          subst e1
          rw [hd] at he
          cases he
          rw [cv_comm g qx qy hAB.1 hA.1 (hAB.y g) (hA.y g)]
          exact .refl g _
        · obtain ⟨f, f2, l2, m2, hf, L2⟩ := add_ln g hAB.1 hC.1 h3
          rw [hf] at hass
          have h4 : ¬ (e = a ∧ e2 + a2 = 0) := by
            rintro ⟨r1, r2⟩
            rw [add_vert ⟨r1.symm, by rw [← r2]; clear hass h1 h2 h3 h5; grobner⟩] at hass
            cases hass
          obtain ⟨f', f2', l4, m4, hf', L4⟩ := add_ln g hBC.1 hA.1 h4
          rw [addE_comm g hA.1 hBC.1, hf'] at hass
          cases hass
          have hm := coc_main g.prime g.two g.noI L L2 L3 L4 ya yb yc yd ye h5 (-qx)
          have v1 := cv_ln g qx qy L ya
          have v2 := cv_ln g qx qy L2 yd
          have v3 := cv_ln g qx qy L3 yb
          have v4 := cv_ln g qx qy L4.swap ya
          have n1 := mul2_ne g (cv_ne qx qy g hq0 (some (a, a2)) (some (b, b2))) (cv_ne qx qy g hq0 (some (d, d2)) (some (c, c2)))
          have n2 := mul2_ne g (cv_ne qx qy g hq0 (some (b, b2)) (some (c, c2))) (cv_ne qx qy g hq0 (some (a, a2)) (some (e, e2)))
          refine Q2.cross g n1 n2 ?_
          rw [v1, v2, v3, v4]
          have hX : -qx * -qx * -qx + -qx = -(qy * qy) := by rw [hq]; clear hm v1 v2 v3 v4 n1 n2 hq; grobner
          rw [hX] at hm
          clear v1 v2 v3 v4 n1 n2 hX
          generalize l * -qx + m = z1 at *
          generalize l2 * -qx + m2 = z2 at *
          generalize l3 * -qx + m3 = z3 at *
          generalize l4 * -qx + m4 = z4 at *
          show (-z1 * -z2 - qy * qy) * (-z3 * qy + qy * -z4) = (-z1 * qy + qy * -z2) * (-z3 * -z4 - qy * qy)
          have t : (-z1 * -z2 - qy * qy) * (-z3 * qy + qy * -z4) - (-z1 * qy + qy * -z2) * (-z3 * -z4 - qy * qy) = qy * ((z1 + z2) * (-(qy * qy) + z3 * z4) - (z3 + z4) * (-(qy * qy) + z1 * z2)) := by
            clear hm hq; grobner
          rw [hm] at t
          clear hm hq; grobner
end
end Obol
end
section
/- The pairing is linear on both sides, without any program. -/
namespace Obol
section
variable {n : Nat} [NeZero n] {s : Fin n}
theorem mul2_left (a b c : E2 n) : mul2 a (mul2 b c) = mul2 b (mul2 a c) := by rw [← mul2_assoc, mul2_comm a b, mul2_assoc]
/-- the last power: what is real falls out -/
def pr (u : E2 n) : E2 n := pow2 (pow2 u (n - 1)) 4
theorem pr_mul (u v : E2 n) : pr (mul2 u v) = mul2 (pr u) (pr v) := by unfold pr; rw [mul2_pow, mul2_pow]
theorem pr_one : pr ((1, 0) : E2 n) = (1, 0) := by unfold pr; rw [pow2_one, pow2_one]
theorem pr_real (g : Good n s) {c : Fin n} (hc : c ≠ 0) : pr ((c, 0) : E2 n) = (1, 0) := by
  unfold pr; rw [pow2_real, fpow_fermat g.prime hc, pow2_one]
theorem pr_Q2 (g : Good n s) {u v : E2 n} (h : Q2 u v) : pr u = pr v := by
  obtain ⟨c, hc, rfl⟩ := h
  rw [pr_mul, pr_real g hc, one_mul2]
theorem pr_im (g : Good n s) {c : Fin n} (hc : c ≠ 0) : pr ((0, c) : E2 n) = (1, 0) := by
  have e : ((0, c) : E2 n) = mul2 (c, 0) (0, 1) := Prod.ext (by simp only [mul2]; grobner) (by simp only [mul2]; grobner)
  rw [e, pr_mul, pr_real g hc, one_mul2]
  have h4 : pow2 ((0, 1) : E2 n) 4 = (1, 0) := by
    show mul2 (mul2 (mul2 (mul2 (1, 0) (0, 1)) (0, 1)) (0, 1)) (0, 1) = _
    exact Prod.ext (by simp only [mul2]; grobner) (by simp only [mul2]; grobner)
  unfold pr
  rw [← pow2_mul, Nat.mul_comm, pow2_mul, h4, pow2_one]
theorem conj_norm (u : E2 n) : mul2 (conj2 u) u = (u.1 * u.1 + u.2 * u.2, 0) := Prod.ext (by simp only [mul2, conj2]; grobner) (by simp only [mul2, conj2]; grobner)
theorem pr_conj (g : Good n s) {u : E2 n} (hu : u ≠ (0, 0)) : mul2 (pr (conj2 u)) (pr u) = (1, 0) := by
  rw [← pr_mul, conj_norm, pr_real g (norm_ne g.prime g.noI hu)]
/-- R-th powers are killed -/
theorem pr_R (g : Good n s) {r : Nat} (hr : n + 1 = 4 * r) {u : E2 n} (hu : u ≠ (0, 0)) : pow2 (pr u) r = (1, 0) := by
  have h2 := g.prime.1
  obtain ⟨j, hj⟩ : ∃ j, n = 4 * j + 3 := ⟨r - 1, by omega⟩
  unfold pr
  rw [← pow2_mul, ← hr, ← pow2_mul, Nat.mul_comm, pow2_mul]
  rw [pow2_succ, frob g.prime hj, conj_norm, pow2_real, fpow_fermat g.prime (norm_ne g.prime g.noI hu)]
theorem cancel_r {u v w i : E2 n} (hi : mul2 w i = (1, 0)) (h : mul2 u w = mul2 v w) : u = v := by
  have := congrArg (fun z => mul2 z i) h
  simp only [mul2_assoc, hi, mul2_one] at this
  exact this
/-- the values of lines, «as» the last power leaves them -/
def pc (qx qy : Fin n) (A B : EPt n) : E2 n := pr (cv qx qy A B)
theorem pc_none (qx qy : Fin n) (B : EPt n) : pc qx qy none B = (1, 0) := by unfold pc; rw [cv_none, pr_one]
theorem pc_none' (qx qy : Fin n) (B : EPt n) : pc qx qy B none = (1, 0) := by unfold pc; rw [cv_none', pr_one]
theorem pc_comm (g : Good n s) {k : Nat} (qx qy : Fin n) {A B : EPt n} (hA : Od k A) (hB : Od k B) : pc qx qy A B = pc qx qy B A := by
  unfold pc; rw [cv_comm g qx qy hA.1 hB.1 (hA.y g) (hB.y g)]
theorem pcoc (g : Good n s) {k : Nat} {qx qy : Fin n} (hq : qy * qy = qx * qx * qx + qx) (hq0 : qy ≠ 0) {A B C : EPt n} (hA : Od k A) (hB : Od k B) (hC : Od k C) :
    mul2 (pc qx qy A B) (pc qx qy (addE A B) C) = mul2 (pc qx qy B C) (pc qx qy A (addE B C)) := by
  unfold pc; rw [← pr_mul, ← pr_mul, pr_Q2 g (coc g hq hq0 hA hB hC)]
/-- a turn's value -/
def Fm (qx qy : Fin n) (A : EPt n) : Nat → E2 n
  | 0 => (1, 0)
  | j + 1 => mul2 (Fm qx qy A j) (pc qx qy (nsm A j) A)
theorem Fm_succ (qx qy : Fin n) (A : EPt n) (j : Nat) : Fm qx qy A (j + 1) = mul2 (Fm qx qy A j) (pc qx qy (nsm A j) A) := rfl
theorem Fm_add (g : Good n s) {k : Nat} {qx qy : Fin n} (hq : qy * qy = qx * qx * qx + qx) (hq0 : qy ≠ 0) {A : EPt n} (hA : Od k A) (m : Nat) : ∀ j,
    Fm qx qy A (m + j) = mul2 (mul2 (Fm qx qy A m) (Fm qx qy A j)) (pc qx qy (nsm A m) (nsm A j))
  | 0 => by
    show Fm qx qy A m = mul2 (mul2 (Fm qx qy A m) (1, 0)) (pc qx qy (nsm A m) none)
    rw [pc_none', mul2_one, mul2_one]
  | j + 1 => by
    have h := pcoc g hq hq0 (hA.times g m) (hA.times g j) hA
    rw [← Nat.add_assoc, Fm_succ, Fm_add g hq hq0 hA m j, Fm_succ, nsm_add g hA.1, nsm_succ, mul2_assoc, h]
    simp only [mul2_comm, mul2_left, mul2_assoc]
theorem exch (g : Good n s) {k : Nat} {qx qy : Fin n} (hq : qy * qy = qx * qx * qx + qx) (hq0 : qy ≠ 0) {U V A B : EPt n} (hU : Od k U) (hV : Od k V) (hA : Od k A) (hB : Od k B) :
    mul2 (mul2 (pc qx qy U V) (pc qx qy (addE U V) (addE A B))) (pc qx qy A B) = mul2 (mul2 (pc qx qy U A) (pc qx qy V B)) (pc qx qy (addE U A) (addE V B)) := by
  have h1 := pcoc g hq hq0 hU hV (hA.add g hB)
  have h2 := pcoc g hq hq0 hV hA hB
  have h3 := pcoc g hq hq0 hU (hV.add g hA) hB
  have h4 := pcoc g hq hq0 hU hA hV
  have h5 := pcoc g hq hq0 (hU.add g hA) hV hB
  rw [addE_assoc g hV.1 hA.1 hB.1] at h3
  rw [pc_comm g qx qy hA hV, addE_comm g hA.1 hV.1] at h4
  rw [addE_assoc g hU.1 hA.1 hV.1, addE_comm g hA.1 hV.1] at h5
  generalize pc qx qy (addE U (addE V A)) B = x1 at *
  generalize pc qx qy U (addE V (addE A B)) = x2 at *
  rw [h1, mul2_assoc, mul2_comm x2, ← mul2_assoc, mul2_comm _ (pc qx qy A B), ← h2, mul2_assoc, ← h3, ← mul2_assoc, ← h4, mul2_assoc, h5, ← mul2_assoc]
theorem Fm_lin (g : Good n s) {k : Nat} {qx qy : Fin n} (hq : qy * qy = qx * qx * qx + qx) (hq0 : qy ≠ 0) {A B : EPt n} (hA : Od k A) (hB : Od k B) : ∀ j,
    mul2 (Fm qx qy (addE A B) j) (pow2 (pc qx qy A B) j) = mul2 (mul2 (Fm qx qy A j) (Fm qx qy B j)) (pc qx qy (nsm A j) (nsm B j))
  | 0 => by
    show mul2 (1, 0) (1, 0) = mul2 (mul2 (1, 0) (1, 0)) (pc qx qy none none)
    rw [pc_none, mul2_one, mul2_one]
  | j + 1 => by
    have h := Fm_lin g hq hq0 hA hB j
    have e := exch g hq hq0 (hA.times g j) (hB.times g j) hA hB
    rw [Fm_succ, pow2_succ, nsm_addE g hA.1 hB.1, mul2_swap, h, mul2_assoc, ← mul2_assoc (pc qx qy (nsm A j) (nsm B j)), e, Fm_succ, Fm_succ, nsm_succ, nsm_succ]
    simp only [mul2_comm, mul2_left, mul2_assoc]
theorem Fm_none (qx qy : Fin n) : ∀ j, Fm qx qy (none : EPt n) j = (1, 0)
  | 0 => rfl
  | j + 1 => by rw [Fm_succ, Fm_none qx qy j, pc_none', mul2_one]
theorem Fm_sum (g : Good n s) {k : Nat} (hr : n + 1 = 4 * (2 * k + 1)) {qx qy : Fin n} (hq : qy * qy = qx * qx * qx + qx) (hq0 : qy ≠ 0) {A B : EPt n} (hA : Od k A) (hB : Od k B) :
    Fm qx qy (addE A B) (2 * k + 1) = mul2 (Fm qx qy A (2 * k + 1)) (Fm qx qy B (2 * k + 1)) := by
  have h := Fm_lin g hq hq0 hA hB (2 * k + 1)
  rw [hA.2, hB.2, pc_none, mul2_one] at h
  unfold pc at h
  rw [pr_R g hr (cv_ne qx qy g hq0 A B), mul2_one] at h
  exact h
theorem Fm_nsm (g : Good n s) {k : Nat} (hr : n + 1 = 4 * (2 * k + 1)) {qx qy : Fin n} (hq : qy * qy = qx * qx * qx + qx) (hq0 : qy ≠ 0) {A : EPt n} (hA : Od k A) : ∀ j,
    Fm qx qy (nsm A j) (2 * k + 1) = pow2 (Fm qx qy A (2 * k + 1)) j
  | 0 => Fm_none qx qy _
  | j + 1 => by rw [nsm_succ, Fm_sum g hr hq hq0 (hA.times g j) hA, Fm_nsm g hr hq hq0 hA j, pow2_succ]
/-! ### the other side: two lines, each at the other's points -/
/-- three values of one line multiplied -/
def tri (l κ m μ e1 e2 e3 : Fin n) : E2 n :=
  ((l * l * l - 3 * l * (κ * κ)) * e3 + (-((l * l - κ * κ) * m) - 2 * l * κ * μ) * e2 + (l * (m * m - μ * μ) + 2 * κ * m * μ) * e1 + (3 * m * (μ * μ) - m * m * m),
   (3 * (l * l) * κ - κ * κ * κ) * e3 + ((l * l - κ * κ) * μ - 2 * l * κ * m) * e2 + (κ * (m * m - μ * μ) - 2 * l * m * μ) * e1 + (3 * (m * m) * μ - μ * μ * μ))
theorem tri_eq (l κ m μ x y z : Fin n) : mul2 (mul2 ((l * x - m, κ * x + μ) : E2 n) (l * y - m, κ * y + μ)) (l * z - m, κ * z + μ) = tri l κ m μ (x + y + z) (x * y + x * z + y * z) (x * y * z) :=
  Prod.ext (by simp only [mul2, tri]; grobner) (by simp only [mul2, tri]; grobner)
theorem tri_swap (l κ m μ : Fin n) : tri κ l μ m (l * l) (1 - 2 * l * m) (m * m) = ((tri l κ m μ (κ * κ) (1 - 2 * κ * μ) (μ * μ)).2, (tri l κ m μ (κ * κ) (1 - 2 * κ * μ) (μ * μ)).1) :=
  Prod.ext (by simp only [tri]; grobner) (by simp only [tri]; grobner)
theorem recip {a a2 b b2 d d2 l m x x2 y y2 z z2 κ μ : Fin n} (L : Ln a a2 b b2 d d2 l m) (M : Ln x x2 y y2 z z2 κ μ) :
    ∃ w : E2 n, mul2 (mul2 ((l * x - m, x2) : E2 n) (l * y - m, y2)) (conj2 (l * z - m, z2)) = w ∧ mul2 (mul2 ((κ * a - μ, a2) : E2 n) (κ * b - μ, b2)) (conj2 (κ * d - μ, d2)) = (w.2, w.1) := by
  obtain ⟨pa, pb, pd, c1, c2, c3⟩ := L
  obtain ⟨qa, qb, qd, e1, e2, e3⟩ := M
  refine ⟨tri l κ m μ (κ * κ) (1 - 2 * κ * μ) (μ * μ), ?_, ?_⟩
  · rw [← e1, ← e2, ← e3, ← tri_eq, qa, qb, qd]
    unfold conj2
    rw [show -(-(κ * z + μ)) = κ * z + μ by clear pa pb pd c1 c2 c3 qa qb qd e1 e2 e3; grobner]
  · rw [← tri_swap, ← c1, ← c2, ← c3, ← tri_eq, pa, pb, pd]
    unfold conj2
    rw [show -(-(l * d + m)) = l * d + m by clear pa pb pd c1 c2 c3 qa qb qd e1 e2 e3; grobner]
theorem cv_at (g : Good n s) {a a2 b b2 d d2 l m : Fin n} (h : Ln a a2 b b2 d d2 l m) (ya : a2 ≠ 0) (x y : Fin n) : cv x y (some (a, a2)) (some (b, b2)) = (l * x - m, y) := by
  rw [cv_ln g x y h ya]
  exact Prod.ext (by show -(l * -x + m) = l * x - m; grobner) rfl
/-- a value at a point; none where there is none -/
def pa (Q : EPt n) (A B : EPt n) : E2 n := match Q with | none => (1, 0) | some (x, y) => pc x y A B
theorem pr_two (g : Good n s) {w : E2 n} (h : w ≠ (0, 0)) : mul2 (pr w) (pr ((w.2, w.1) : E2 n)) = (1, 0) := by
  rw [← pr_mul]
  have hN := norm_ne g.prime g.noI h
  have e : mul2 w ((w.2, w.1) : E2 n) = (0, w.1 * w.1 + w.2 * w.2) := Prod.ext (by simp only [mul2]; grobner) rfl
  rw [e, pr_im g hN]
theorem conj2_ne {u : E2 n} (h : u ≠ (0, 0)) : conj2 u ≠ (0, 0) := by
  intro e
  have e1 : u.1 = 0 := congrArg Prod.fst e
  have e2 : -u.2 = 0 := congrArg Prod.snd e
  exact h (Prod.ext e1 (by show u.2 = 0; clear e e1; grobner))
theorem snd_ne {x y : Fin n} (h : y ≠ 0) : ((x, y) : E2 n) ≠ (0, 0) := fun e => h (congrArg Prod.snd e)
/-- each line's values at the other's points -/
theorem weil (g : Good n s) {k : Nat} {A B Q T : EPt n} (hA : Od k A) (hB : Od k B) (hQ : Od k Q) (hT : Od k T) (a0 : A ≠ none) (b0 : B ≠ none) (q0 : Q ≠ none) (t0 : T ≠ none) (ab : addE A B ≠ none) (qt : addE Q T ≠ none) :
    mul2 (mul2 (pa Q A B) (pa T A B)) (mul2 (pa A Q T) (pa B Q T)) = mul2 (pa (addE Q T) A B) (pa (addE A B) Q T) := by
  have hAB := hA.add g hB
  have hQT := hQ.add g hT
  match A, B, Q, T, a0, b0, q0, t0 with
  | some (a, a2), some (b, b2), some (x, x2), some (y, y2), _, _, _, _ =>
    have h1 : ¬ (a = b ∧ a2 + b2 = 0) := fun h => ab (add_vert h)
    have h2 : ¬ (x = y ∧ x2 + y2 = 0) := fun h => qt (add_vert h)
    obtain ⟨d, d2, l, m, hd, L⟩ := add_ln g hA.1 hB.1 h1
    obtain ⟨z, z2, κ, μ, hz, M⟩ := add_ln g hQ.1 hT.1 h2
    have ya := hA.y' g
    have yb := hB.y' g
    have yx := hQ.y' g
    have yy := hT.y' g
    rw [hd] at hAB ⊢
    rw [hz] at hQT ⊢
    have yd := hAB.y' g
    have yz := hQT.y' g
    obtain ⟨w, e1, e2⟩ := recip L M
    have w0 : w ≠ (0, 0) := by
      rw [← e1]
      exact mul2_ne g (mul2_ne g (snd_ne yx) (snd_ne yy)) (conj2_ne (snd_ne yz))
    have e := pr_two g w0
    rw [← e2, ← e1, pr_mul, pr_mul, pr_mul, pr_mul] at e
    show mul2 (mul2 (pr (cv x x2 (some (a, a2)) (some (b, b2)))) (pr (cv y y2 (some (a, a2)) (some (b, b2))))) (mul2 (pr (cv a a2 (some (x, x2)) (some (y, y2)))) (pr (cv b b2 (some (x, x2)) (some (y, y2))))) = mul2 (pr (cv z z2 (some (a, a2)) (some (b, b2)))) (pr (cv d d2 (some (x, x2)) (some (y, y2))))
    rw [cv_at g L ya, cv_at g L ya, cv_at g L ya, cv_at g M yx, cv_at g M yx, cv_at g M yx]
    have f1 := pr_conj g (snd_ne (x := l * z - m) yz)
    have f2 := pr_conj g (snd_ne (x := κ * d - μ) yd)
    generalize pr ((l * x - m, x2) : E2 n) = u1 at *
    generalize pr ((l * y - m, y2) : E2 n) = u2 at *
    generalize pr ((l * z - m, z2) : E2 n) = u3 at *
    generalize pr (conj2 ((l * z - m, z2) : E2 n)) = v3 at *
    generalize pr ((κ * a - μ, a2) : E2 n) = r1 at *
    generalize pr ((κ * b - μ, b2) : E2 n) = r2 at *
    generalize pr ((κ * d - μ, d2) : E2 n) = r3 at *
    generalize pr (conj2 ((κ * d - μ, d2) : E2 n)) = t3 at *
    have g1 : mul2 (mul2 u3 r3) (mul2 v3 t3) = (1, 0) := by
      rw [mul2_swap, mul2_comm u3, f1, one_mul2, mul2_comm r3, f2]
    refine cancel_r (w := mul2 v3 t3) (i := mul2 u3 r3) (by rw [mul2_comm]; exact g1) ?_
    rw [g1, ← e]
    simp only [mul2_comm, mul2_left]
/-- a turn's value at a point; none where there is none -/
def Fa (Q A : EPt n) (j : Nat) : E2 n := match Q with | none => (1, 0) | some (x, y) => Fm x y A j
theorem Fa_zero (Q A : EPt n) : Fa Q A 0 = (1, 0) := by
  match Q with
  | none => rfl
  | some (x, y) => rfl
theorem Fa_succ (Q A : EPt n) (j : Nat) : Fa Q A (j + 1) = mul2 (Fa Q A j) (pa Q (nsm A j) A) := by
  match Q with
  | none => exact (mul2_one _).symm
  | some (x, y) => rfl
theorem Fa_none (Q : EPt n) (j : Nat) : Fa Q none j = (1, 0) := by
  match Q with
  | none => rfl
  | some (x, y) => exact Fm_none x y j
theorem pa_none (Q A : EPt n) : pa Q none A = (1, 0) := by
  match Q with
  | none => rfl
  | some (x, y) => exact pc_none x y A
theorem pa_vert (Q : EPt n) {A B : EPt n} (h : addE A B = none) : pa Q A B = (1, 0) := by
  match Q with
  | none => rfl
  | some (x, y) =>
    show pr (cv x y A B) = (1, 0)
    match A, B with
    | none, B => rw [cv_none, pr_one]
    | some A, none => rw [cv_none', pr_one]
    | some (a, a2), some (b, b2) => rw [cv_vert x y (vert_add h), pr_one]
theorem cv_flip (x y : Fin n) (A B : EPt n) : cv x (-y) A B = conj2 (cv x y A B) := by
  have h1 : ((1, 0) : E2 n) = conj2 (1, 0) := Prod.ext rfl (by show (0 : Fin n) = -0; grobner)
  match A, B with
  | none, B => rw [cv_none, cv_none]; exact h1
  | some A, none => rw [cv_none', cv_none']; exact h1
  | some (a, a2), some (b, b2) =>
    show (if a = b ∧ a2 + b2 = 0 then (1, 0) else (lamQ a a2 b b2 * (x + a) - a2, -y)) = conj2 (if a = b ∧ a2 + b2 = 0 then (1, 0) else (lamQ a a2 b b2 * (x + a) - a2, y))
    split
    · exact h1
    · rfl
/-- at the opposite point: the inverse -/
theorem pa_opp (g : Good n s) {k : Nat} {Q T : EPt n} (hQ : Od k Q) (h : addE Q T = none) (A B : EPt n) : mul2 (pa Q A B) (pa T A B) = (1, 0) := by
  match Q, T, hQ, h with
  | none, none, _, _ => exact mul2_one _
  | none, some t, _, h => cases h
  | some q, none, _, h => cases h
  | some (x, y), some (x', y'), hQ, h =>
    obtain ⟨rfl, h2⟩ := vert_add h
    obtain rfl : y' = -y := by clear h hQ; grobner
    show mul2 (pr (cv x y A B)) (pr (cv x (-y) A B)) = (1, 0)
    rw [cv_flip, mul2_comm]
    exact pr_conj g (cv_ne x y g (hQ.y' g) A B)
theorem Fa_opp (g : Good n s) {k : Nat} {Q T : EPt n} (hQ : Od k Q) (h : addE Q T = none) (A : EPt n) : ∀ j, mul2 (Fa Q A j) (Fa T A j) = (1, 0)
  | 0 => by rw [Fa_zero, Fa_zero, mul2_one]
  | j + 1 => by rw [Fa_succ, Fa_succ, mul2_swap, Fa_opp g hQ h A j, pa_opp g hQ h, mul2_one]
theorem Fa_tele (g : Good n s) {k : Nat} {A Q T : EPt n} (hA : Od k A) (hQ : Od k Q) (hT : Od k T) (a0 : A ≠ none) (q0 : Q ≠ none) (t0 : T ≠ none) (qt : addE Q T ≠ none)
    (low : ∀ j, 0 < j → j < 2 * k + 1 → nsm A j ≠ none) : ∀ j, j + 1 < 2 * k + 1 →
    mul2 (mul2 (Fa Q A (j + 1)) (Fa T A (j + 1))) (pow2 (pa A Q T) (j + 1)) = mul2 (Fa (addE Q T) A (j + 1)) (pa (nsm A (j + 1)) Q T)
  | 0, _ => by
    rw [Fa_succ, Fa_succ, Fa_succ, Fa_zero, Fa_zero, Fa_zero, pow2_succ]
    show mul2 (mul2 (mul2 (1, 0) (pa Q none A)) (mul2 (1, 0) (pa T none A))) (mul2 (1, 0) (pa A Q T)) = mul2 (mul2 (1, 0) (pa (addE Q T) none A)) (pa A Q T)
    rw [pa_none, pa_none, pa_none, mul2_one, mul2_one, one_mul2]
  | j + 1, hj => by
    have h := Fa_tele g hA hQ hT a0 q0 t0 qt low j (by omega)
    have hw := weil g (hA.times g (j + 1)) hA hQ hT (low (j + 1) (by omega) (by omega)) a0 q0 t0 (low (j + 1 + 1) (by omega) hj) qt
    have hs : nsm A (j + 1 + 1) = addE (nsm A (j + 1)) A := rfl
    rw [Fa_succ Q, Fa_succ T, Fa_succ (addE Q T), pow2_succ, hs]
    generalize Fa Q A (j + 1) = f1 at *
    generalize Fa T A (j + 1) = f2 at *
    generalize Fa (addE Q T) A (j + 1) = f3 at *
    generalize pow2 (pa A Q T) (j + 1) = p at *
    generalize pa Q (nsm A (j + 1)) A = u1 at *
    generalize pa T (nsm A (j + 1)) A = u2 at *
    generalize pa (addE Q T) (nsm A (j + 1)) A = u3 at *
    generalize pa (nsm A (j + 1)) Q T = r1 at *
    generalize pa A Q T = r2 at *
    generalize pa (addE (nsm A (j + 1)) A) Q T = r3 at *
    have e : mul2 (mul2 (mul2 f1 u1) (mul2 f2 u2)) (mul2 p r2) = mul2 (mul2 (mul2 (mul2 f1 f2) p) (mul2 u1 u2)) r2 := by simp only [mul2_comm, mul2_left]
    rw [e, h, mul2_assoc f3 u3, ← hw]
    simp only [mul2_comm, mul2_left]
theorem Fa_sum (g : Good n s) {k : Nat} (hr : n + 1 = 4 * (2 * k + 1)) (hk : 0 < k) {A Q T : EPt n} (hA : Od k A) (hQ : Od k Q) (hT : Od k T) (low : A ≠ none → ∀ j, 0 < j → j < 2 * k + 1 → nsm A j ≠ none) :
    Fa (addE Q T) A (2 * k + 1) = mul2 (Fa Q A (2 * k + 1)) (Fa T A (2 * k + 1)) := by
  by_cases a0 : A = none
  · rw [a0, Fa_none, Fa_none, Fa_none, mul2_one]
  by_cases q0 : Q = none
  · subst q0
    rw [none_addE]
    exact (one_mul2 _).symm
  by_cases t0 : T = none
  · subst t0
    rw [addE_none]
    exact (mul2_one _).symm
  by_cases qt : addE Q T = none
  · rw [Fa_opp g hQ qt, qt]; rfl
  have hl : addE (nsm A (2 * k)) A = none := hA.2
  obtain ⟨j, hj⟩ : ∃ j, 2 * k = j + 1 := ⟨2 * k - 1, by omega⟩
  have h := Fa_tele g hA hQ hT a0 q0 t0 qt (low a0) j (by omega)
  rw [← hj] at h
  rw [Fa_succ, Fa_succ, Fa_succ, pa_vert _ hl, pa_vert _ hl, pa_vert _ hl, mul2_one, mul2_one, mul2_one]
  have ho := pa_opp g (hA.times g (2 * k)) hl Q T
  have hp : mul2 (pow2 (pa A Q T) (2 * k)) (pa A Q T) = (1, 0) := by
    rw [← pow2_succ]
    match A, hA, a0 with
    | some (x, y), hA, _ => exact pr_R g hr (cv_ne x y g (hA.y' g) Q T)
  have e := congrArg (fun z => mul2 z (pa A Q T)) h
  simp only [mul2_assoc] at e
  rw [ho, hp, mul2_one, mul2_one] at e
  exact e.symm
theorem Fa_nsm (g : Good n s) {k : Nat} (hr : n + 1 = 4 * (2 * k + 1)) (hk : 0 < k) {A Q : EPt n} (hA : Od k A) (hQ : Od k Q) (low : A ≠ none → ∀ j, 0 < j → j < 2 * k + 1 → nsm A j ≠ none) : ∀ j,
    Fa (nsm Q j) A (2 * k + 1) = pow2 (Fa Q A (2 * k + 1)) j
  | 0 => rfl
  | j + 1 => by rw [nsm_succ, Fa_sum g hr hk hA (hQ.times g j) hQ low, Fa_nsm g hr hk hA hQ low j, pow2_succ]
theorem Fa_nsmA (g : Good n s) {k : Nat} (hr : n + 1 = 4 * (2 * k + 1)) {A Q : EPt n} (hA : Od k A) (hQ : Od k Q) (j : Nat) : Fa Q (nsm A j) (2 * k + 1) = pow2 (Fa Q A (2 * k + 1)) j := by
  match Q, hQ with
  | none, _ => exact (pow2_one _).symm
  | some (x, y), hQ => exact Fm_nsm g hr hQ.1 (hQ.y' g) hA j
end
end Obol
end
section
/- PairTimes over E: the program's pairing is linear on both sides. -/
set_option linter.unusedVariables false
set_option linter.unusedSimpArgs false
set_option maxRecDepth 10000
open Go Go.Proofs.Ytdbpjegocmdplaa.E Go.Proofs
namespace Go.Proofs.Ytdbpjegocmdplaa.E.M
open Obol (mul2 pow2 conj2 E2 nsm prime_P prime_R IsPrime fpow cv lamQ pr Fm Fa Od finv)
theorem gP : Obol.Good 1152921505151057923 (K 763705535885484439) := goodP
theorem line_cv {tx ty bx bY qx qy : Int} (ht : Pt (false, tx, ty)) (hb : Pt (false, bx, bY)) (hq : Pt (false, qx, qy)) :
    k2 (lineE (false, tx, ty) (false, bx, bY) (false, qx, qy)) = cv (K qx) (K qy) (toE (false, tx, ty)) (toE (false, bx, bY)) := by
  have hd := down_iff ht hb
  have hw : wallP (false, tx, ty) (false, bx, bY) = true ↔ K tx = K bx ∧ K ty + K bY = 0 := by
    have e : wallP (false, tx, ty) (false, bx, bY) = true ↔ tx = bx ∧ (ty + bY) % 1152921505151057923 = 0 := by simp [wallP]
    rw [e]
    constructor
    · rintro ⟨rfl, h⟩
      refine ⟨rfl, ?_⟩
      rw [← K_add, ← K_emod, h, K_0]
    · rintro ⟨h1, h2⟩
      refine ⟨K_inj ht.fin.1 hb.fin.1 h1, ?_⟩
      refine K_inj (ltm _) ⟨Int.le_refl 0, by decide⟩ ?_
      rw [K_emod, K_add, K_0, h2]
  rw [hw] at hd
  show _ = (if K tx = K bx ∧ K ty + K bY = 0 then (1, 0) else (lamQ (K tx) (K ty) (K bx) (K bY) * (K qx + K tx) - K ty, K qy))
  unfold lineE
  by_cases h : downE (false, tx, ty) (false, bx, bY) = 0
  · rw [if_pos h, if_pos (hd.2 h), k2_one]
  · rw [if_neg h, if_neg (fun e => h (hd.1 e))]
    have hi := (K_inv (downE_lt _ _) h).1
    have hl : K (upE (false, tx, ty) (false, bx, bY)) * K (inv 1152921505151057923 (downE (false, tx, ty) (false, bx, bY))) = lamQ (K tx) (K ty) (K bx) (K bY) := by
      unfold lamQ
      by_cases e : ((false, tx, ty) : P3) = (false, bx, bY)
      · cases e
        rw [if_pos rfl]
        have hdn : K (downE (false, tx, ty) (false, tx, ty)) = K ty + K ty := by
          unfold downE; rw [if_pos rfl, K_emod, K_add]
        rw [hdn] at hi
        rw [finv_of hi]
        unfold upE
        rw [if_pos rfl]
        simp only [K_emod, K_add, K_mul, K_1, K_3]
      · have hx : ¬ K tx = K bx := by
          intro hx
          have hx := K_inj ht.fin.1 hb.fin.1 hx
          subst hx
          apply h
          unfold downE
          rw [if_neg e]
          show (tx - tx) % _ = 0
          rw [Int.sub_self]; rfl
        rw [if_neg hx]
        have hdn : K (downE (false, tx, ty) (false, bx, bY)) = K bx - K tx := by
          unfold downE; rw [if_neg e, K_emod, K_sub]
        rw [hdn] at hi
        rw [finv_of hi]
        unfold upE
        rw [if_neg e]
        simp only [K_emod, K_sub]
    refine Prod.ext ?_ rfl
    unfold k2
    simp only [K_emod, K_add, K_mul, K_sub]
    rw [hl]
theorem od_of {t : P3} (h : inP t.1 t.2.1 t.2.2 = true) : Od 144115188143882240 (toE t) := ⟨toE_on (in_pt h).1, (in_pt h).2⟩
theorem turn_fm {r : Nat} (hr : r = 288230376287764481) {ax ay qx qy : Int} (ha : inP false ax ay = true) (hq : inP false qx qy = true) : ∀ (i : Nat), i ≤ 58 → ∀ (f : Int × Int) (t : P3), pr (k2 f) = Fm (K qx) (K qy) (toE (false, ax, ay)) (r / 2 ^ i) → Pt t → toE t = nsm (toE (false, ax, ay)) (r / 2 ^ i) →
    pr (k2 (trn (false, ax, ay) (false, qx, qy) i (f, t)).1) = Fm (K qx) (K qy) (toE (false, ax, ay)) r := by
  intro i
  induction i with
  | zero =>
    intro _ f t h _ _
    rw [Nat.pow_zero, Nat.div_one] at h
    exact h
  | succ i ih =>
    intro hi f t h ht hm
    obtain ⟨pa, ra⟩ := in_pt ha
    obtain ⟨pq, _⟩ := in_pt hq
    have oa := od_of (t := (false, ax, ay)) ha
    have q0 : K qy ≠ 0 := K_nz pq.fin.2.1 (in_y hq)
    have qe := pq.fin.2.2
    have hlow := fun {m} => nsm_lower (toE_on pa) ra (by intro h; cases h) (m := m)
    have hM : r / 2 ^ (i + 1) = r / 2 ^ i / 2 := by rw [Nat.pow_succ, Nat.div_div_eq_div_mul]
    have hbig : 2 ≤ r / 2 ^ i := by
      rw [hr]
      rw [Nat.le_div_iff_mul_le (Nat.pow_pos (by decide))]
      calc 2 * 2 ^ i ≤ 2 * 2 ^ 57 := Nat.mul_le_mul_left 2 (Nat.pow_le_pow_right (by decide) (by omega))
        _ ≤ _ := by decide
    have hsmall : r / 2 ^ i ≤ r := Nat.div_le_self _ _
    rw [hM] at hm h
    have hbit := bitN i
    rw [← hr] at hbit
    show pr (k2 (trn _ _ i (roundE _ _ i (f, t))).1) = _
    have ih := ih (by omega)
    generalize r / 2 ^ i = M at *
    unfold roundE
    have tf : t.1 = false := fin_of (by rw [hm]; exact hlow (by omega) (by omega))
    obtain ⟨t0, tx, ty⟩ := t
    have tf : t0 = false := tf
    subst tf
    have p2 := sumP_pt ht ht
    have e2 : toE (sumP (false, tx, ty) (false, tx, ty)) = nsm (toE (false, ax, ay)) (2 * (M / 2)) := by
      rw [toE_sum ht ht, hm, ← Obol.nsm_add goodP (toE_on pa), Nat.two_mul]
    have l1 := line_cv ht ht pq
    generalize sumP (false, tx, ty) (false, tx, ty) = two at *
    have s1 : pr (k2 (mulE (mulE f f) (lineE (false, tx, ty) (false, tx, ty) (false, qx, qy)))) = Fm (K qx) (K qy) (toE (false, ax, ay)) (2 * (M / 2)) := by
      rw [k2_mul, k2_mul, Obol.pr_mul, Obol.pr_mul, h, l1, hm, Nat.two_mul, Obol.Fm_add gP qe q0 oa]
      rfl
    rw [hbit]
    split
    · rename_i b1
      have b1 : M % 2 = 1 := by omega
      have tf : two.1 = false := fin_of (by rw [e2]; exact hlow (by omega) (by omega))
      obtain ⟨b0, ux, uy⟩ := two
      have tf : b0 = false := tf
      subst tf
      have p3 := sumP_pt p2 pa
      have l2 := line_cv p2 pa pq
      have eM : M = 2 * (M / 2) + 1 := by omega
      refine ih _ _ ?_ p3 ?_
      · rw [k2_mul, Obol.pr_mul, s1, l2, e2]
        conv => rhs; rw [eM]
        rfl
      · rw [toE_sum p2 pa, e2]
        conv => rhs; rw [eM]
        rfl
    · rename_i b1
      have b1 : M % 2 = 0 := by omega
      have eM : 2 * (M / 2) = M := by omega
      rw [eM] at s1 e2
      exact ih _ _ s1 p2 e2
theorem pair_val {a q : P3} (ha : inP a.1 a.2.1 a.2.2 = true) (hq : inP q.1 q.2.1 q.2.2 = true) : k2 (pairE a q) = Fa (toE q) (toE a) 288230376287764481 := by
  obtain ⟨a0, ax, ay⟩ := a
  obtain ⟨q0, qx, qy⟩ := q
  unfold pairE
  rw [if_pos ⟨ha, hq⟩]
  cases a0 with
  | true =>
    rw [if_pos (.inl rfl), k2_one]
    exact (Obol.Fa_none _ _).symm
  | false =>
  cases q0 with
  | true =>
    rw [if_pos (.inr rfl), k2_one]; rfl
  | false =>
  rw [if_neg (by simp)]
  have h := turn_fm rfl ha hq 58 (Nat.le_refl _) (1, 0) (false, ax, ay) (by rw [k2_one, Obol.pr_one]; show _ = mul2 (1, 0) (pr (cv (K qx) (K qy) none (toE (false, ax, ay)))); rw [Obol.cv_none, Obol.pr_one, Obol.mul2_one]) (in_pt ha).1 rfl
  show _ = Fm (K qx) (K qy) (toE (false, ax, ay)) 288230376287764481
  rw [← h, k2_plo4, k2_mul, k2_conj]
  show pow2 (mul2 (conj2 (k2 (trn (false, ax, ay) (false, qx, qy) 58 ((1, 0), false, ax, ay)).1)) (k2 (invE (trn (false, ax, ay) (false, qx, qy) 58 ((1, 0), false, ax, ay)).1))) 4 = _
  generalize (trn (false, ax, ay) (false, qx, qy) 58 ((1, 0), false, ax, ay)).1 = F at *
  show _ = pow2 (pow2 (k2 F) (1152921505151057923 - 1)) 4
  by_cases hF : k2 F = (0, 0)
  · have z : mul2 (conj2 (k2 F)) (k2 (invE F)) = (0, 0) := by
      rw [hF]
      unfold conj2 mul2
      exact Prod.ext (by grind) (by grind)
    rw [z, hF, Obol.pow_zero2 prime_P]
  · rw [Obol.pow_less prime_P hj4 (k2_inv hF)]
theorem in_of {t : P3} (h : Pt t) (hr : nsm (toE t) 288230376287764481 = none) : inP t.1 t.2.1 t.2.2 = true := by
  unfold inP
  rw [Bool.and_eq_true]
  refine ⟨h, ?_⟩
  have e := toE_times h (k := 288230376287764481) (by decide)
  rw [show (288230376287764481 : Int).toNat = 288230376287764481 from rfl, hr] at e
  exact toE_none e
theorem gg_in : inP false 247390119040843104 830327839767444578 = true := by decide +kernel
theorem in_times {k : Int} (hk : w64 k) : inP (timesP GG k).1 (timesP GG k).2.1 (timesP GG k).2.2 = true ∧ Pt (timesP GG k) ∧ toE (timesP GG k) = nsm (toE GG) k.toNat := by
  have hp := timesP_pt gg_pt k
  have he := toE_times gg_pt hk
  refine ⟨in_of hp ?_, hp, he⟩
  rw [he]
  exact ((od_of (t := GG) gg_in).times gP k.toNat).2
theorem low_of {t : P3} (h : inP t.1 t.2.1 t.2.2 = true) : toE t ≠ none → ∀ j, 0 < j → j < 2 * 144115188143882240 + 1 → nsm (toE t) j ≠ none :=
  fun h0 j h1 h2 => nsm_lower (toE_on (in_pt h).1) (in_pt h).2 h0 h1 h2
/-- the pairing's value at multiples of a point -/
theorem pair_mul {j k : Int} (hj : w64 j) (hk : w64 k) : k2 (pairE (timesP GG j) (timesP GG k)) = pow2 (pow2 (k2 (pairE GG GG)) k.toNat) j.toNat := by
  obtain ⟨ia, pa, ea⟩ := in_times hj
  obtain ⟨iq, pq, eq⟩ := in_times hk
  have og := od_of (t := GG) gg_in
  have hgg : k2 (pairE GG GG) = Fa (toE GG) (toE GG) 288230376287764481 := pair_val (a := GG) (q := GG) gg_in gg_in
  rw [pair_val ia iq, ea, eq, hgg]
  have e1 := Obol.Fa_nsm gP (k := 144115188143882240) rfl (by decide) og og (low_of (t := GG) gg_in) k.toNat
  have e1 : Fa (nsm (toE GG) k.toNat) (toE GG) 288230376287764481 = pow2 (Fa (toE GG) (toE GG) 288230376287764481) k.toNat := e1
  rw [← e1]
  exact Obol.Fa_nsmA gP (k := 144115188143882240) rfl og (og.times gP k.toNat) j.toNat
theorem pow_R : pow2 (k2 (pairE GG GG)) 288230376287764481 = (1, 0) := by
  have h := gg_ok
  simp only [Bool.and_eq_true, beq_iff_eq, bne_iff_ne] at h
  have e := congrArg k2 h.2.2.2
  rw [k2_powE _ (by decide), k2_one] at e
  exact e
end Go.Proofs.Ytdbpjegocmdplaa.E.M
end
section
/- CurveWrites and CurveReads over E. -/
set_option linter.unusedVariables false
set_option linter.unusedSimpArgs false
set_option maxRecDepth 10000
open Go Go.Proofs.Ytdbpjegocmdplaa.E Go.Proofs
namespace Go.Proofs.Ytdbpjegocmdplaa.E.M
theorem num8 (a b c d e f g h : Int) (l : List Int) : num (a :: b :: c :: d :: e :: f :: g :: h :: l) = ((((((a * 256 + b) * 256 + c) * 256 + d) * 256 + e) * 256 + f) * 256 + g) * 256 + h := by
  show ((((((((0 * 256 + a) * 256 + b) * 256 + c) * 256 + d) * 256 + e) * 256 + f) * 256 + g) * 256 + h) = _
  rw [Int.zero_mul, Int.zero_add]
theorem num_be {x : Int} (hx : w64 x) (l : List Int) : num (be x ++ l) = x := by
  have h0 := hx.1
  have h1 := hx.2
  clear hx
  unfold be
  show num (_ :: _ :: _ :: _ :: _ :: _ :: _ :: _ :: l) = x
  rw [num8]
  omega
theorem be_b8 (x : Int) : ∀ b ∈ be x, b8 b := by
  intro b hb
  unfold be at hb
  simp only [List.mem_cons, List.not_mem_nil, or_false] at hb
  rcases hb with rfl | rfl | rfl | rfl | rfl | rfl | rfl | rfl <;> exact ⟨Int.emod_nonneg _ (by decide), Int.emod_lt_of_pos _ (by decide)⟩
end Go.Proofs.Ytdbpjegocmdplaa.E.M
end
section
/- Points «as» multiples of the first one: exponents are a field's numbers; proofs of values that hold. -/
set_option linter.unusedVariables false
set_option linter.unusedSimpArgs false
set_option maxRecDepth 10000
open Go Go.Proofs.Ytdbpjegocmdplaa.E Go.Proofs
namespace Go.Proofs.Ytdbpjegocmdplaa.E.M
open Obol (nsm Od addE pow2 mul2)
theorem e0_od : Od 144115188143882240 (toE GG) := od_of (t := GG) gg_in
theorem e0_on : Obol.onE (toE GG) := e0_od.1
theorem nsm_R (q : Nat) : nsm (toE GG) (288230376287764481 * q) = none := by
  rw [Obol.nsm_mul gP e0_on, show nsm (toE GG) 288230376287764481 = none from e0_od.2, Obol.nsm_none]
theorem nsm_mod (m : Nat) : nsm (toE GG) (m % 288230376287764481) = nsm (toE GG) m := by
  conv => rhs; rw [← Nat.div_add_mod m 288230376287764481]
  rw [Obol.nsm_add gP e0_on, nsm_R, Obol.none_addE]
def gN (m : Nat) : P3 := gT ((m % 288230376287764481 : Nat) : Int)
theorem mod_w (m : Nat) : w64 ((m % 288230376287764481 : Nat) : Int) := by
  have := Nat.mod_lt m (show 0 < 288230376287764481 by decide)
  exact ⟨by omega, by omega⟩
theorem gN_pt (m : Nat) : Pt (gN m) := gT_pt _
theorem toE_gN (m : Nat) : toE (gN m) = nsm (toE GG) m := by
  unfold gN gT
  rw [(in_times (mod_w m)).2.2, Int.toNat_natCast, nsm_mod]
theorem eq_gN {t : P3} {m : Nat} (ht : Pt t) (h : toE t = nsm (toE GG) m) : t = gN m := toE_inj ht (gN_pt m) (by rw [h, toE_gN])
theorem gT_gN {a : Int} (ha : w64 a) : gT a = gN a.toNat := eq_gN (gT_pt a) (in_times ha).2.2
theorem addG_eq {a b : P3} (ha : Pt a) (hb : Pt b) : addG a b = sumP a b := by unfold addG; rw [sureP_of ha, sureP_of hb]
theorem mulG_eq {a : P3} (ha : Pt a) (k : Int) : mulG a k = timesP a k := by unfold mulG; rw [sureP_of ha]
theorem negG_eq {a : P3} (ha : Pt a) : negG a = negP a := by unfold negG; rw [sureP_of ha]
theorem gN_add (a b : Nat) : addG (gN a) (gN b) = gN (a + b) := by
  refine eq_gN (addG_pt _ _) ?_
  rw [addG_eq (gN_pt a) (gN_pt b), toE_sum (gN_pt a) (gN_pt b), toE_gN, toE_gN, Obol.nsm_add gP e0_on]
theorem gN_mul (a : Nat) {k : Int} (hk : w64 k) : mulG (gN a) k = gN (a * k.toNat) := by
  refine eq_gN (mulG_pt _ _) ?_
  rw [mulG_eq (gN_pt a), toE_times (gN_pt a) hk, toE_gN, ← Obol.nsm_mul gP e0_on]
theorem sum_neg {t : P3} (ht : Pt t) : toE (sumP (negP t) t) = none := by
  obtain ⟨b, x, y⟩ := t
  cases b with
  | true =>
    obtain ⟨rfl, rfl⟩ := Pt.inf (x := x) (y := y) ht
    rfl
  | false =>
    have e : sumP (negP (false, x, y)) (false, x, y) = (true, 0, 0) := by
      unfold sumP negP
      rw [if_neg (by simp), if_neg (by simp), if_pos ⟨rfl, by simp only; omega⟩]
    rw [e]; rfl
theorem gN_neg (a : Nat) : negG (gN a) = gN (a * 288230376287764480) := by
  refine eq_gN (negG_pt _) ?_
  rw [negG_eq (gN_pt a)]
  have h1 := sum_neg (gN_pt a)
  rw [toE_sum (negP_pt (gN_pt a)) (gN_pt a)] at h1
  have h2 : addE (nsm (toE GG) (a * 288230376287764480)) (toE (gN a)) = none := by
    rw [toE_gN, ← Obol.nsm_add gP e0_on, show a * 288230376287764480 + a = 288230376287764481 * a by omega, nsm_R]
  have on1 : Obol.onE (toE (gN a)) := toE_on (gN_pt a)
  have on2 : Obol.onE (toE (negP (gN a))) := toE_on (negP_pt (gN_pt a))
  have on3 : Obol.onE (nsm (toE GG) (a * 288230376287764480)) := Obol.nsm_on gP e0_on _
  have comm : ∀ {u v : Obol.EPt 1152921505151057923}, Obol.onE u → Obol.onE v → addE u v = addE v u := fun hu hv => Obol.addE_comm gP hu hv
  rw [comm on2 on1] at h1
  rw [comm on3 on1] at h2
  exact Obol.addE_cancel gP on1 on2 on3 (h1.trans h2.symm)
theorem gN_in (m : Nat) : inG (gN m) = true := (in_times (mod_w m)).1
theorem gN_congr {a b : Nat} (h : a % 288230376287764481 = b % 288230376287764481) : gN a = gN b := by unfold gN; rw [h]
theorem pow_mod (m : Nat) : pow2 (k2 (pairE GG GG)) m = pow2 (k2 (pairE GG GG)) (m % 288230376287764481) := by
  conv => lhs; rw [← Nat.div_add_mod m 288230376287764481]
  rw [Obol.pow2_add, Obol.pow2_mul, pow_R, Obol.pow2_one, Obol.one_mul2]
theorem gN_pair (a b : Nat) : k2 (pairE (gN a) (gN b)) = pow2 (k2 (pairE GG GG)) (a * b) := by
  unfold gN gT
  rw [pair_mul (mod_w a) (mod_w b), Int.toNat_natCast, Int.toNat_natCast, ← Obol.pow2_mul, pow_mod, ← Nat.mul_mod, Nat.mul_comm, ← pow_mod]
theorem pair_nz (a b : Nat) : pairE (gN a) (gN b) ≠ (0, 0) := by
  intro h
  have e := gN_pair a b
  rw [h] at e
  have h1 : mul2 (pow2 (k2 (pairE GG GG)) (a * b)) (pow2 (k2 (pairE GG GG)) (288230376287764480 * (a * b))) = (1, 0) := by
    rw [← Obol.pow2_add, show a * b + 288230376287764480 * (a * b) = 288230376287764481 * (a * b) by omega, Obol.pow2_mul, pow_R, Obol.pow2_one]
  rw [← e] at h1
  have h2 : k2 (0, 0) = (0, 0) := by unfold k2; rw [K_0]
  rw [h2, Obol.mul2_comm, Obol.mul2_zero] at h1
  exact gP.one_ne (congrArg Prod.fst h1).symm
theorem prod4 {a b c d a' b' c' d' : Nat} (h : (a * a' + b * b' + c * c' + d * d') % 288230376287764481 = 0) : prodV [gN a, gN b, gN c, gN d] [gN a', gN b', gN c', gN d'] = ((1, 0), true) := by
  unfold prodV
  refine (if_pos rfl).trans ?_
  simp only [prodF]
  rw [if_neg (pair_nz a a'), if_neg (pair_nz b b'), if_neg (pair_nz c c'), if_neg (pair_nz d d')]
  simp only [Prod.mk.injEq, and_true]
  show mulE (mulE (mulE (mulE (1, 0) (pairE (gN a) (gN a'))) (pairE (gN b) (gN b'))) (pairE (gN c) (gN c'))) (pairE (gN d) (gN d')) = (1, 0)
  refine k2_inj (mulE_lt _ _) ⟨⟨by decide, by decide⟩, by decide, by decide⟩ ?_
  rw [k2_mul, k2_mul, k2_mul, k2_mul, gN_pair, gN_pair, gN_pair, gN_pair, k2_one, Obol.one_mul2, ← Obol.pow2_add, ← Obol.pow2_add, ← Obol.pow2_add, pow_mod, h]
  rfl
section
variable {r : Nat} [NeZero r]
open Obol (of of_add of_mul of_sub of_zero of_one of_neg of_emod of_val_self)
def gX (x : Fin r) : P3 := gN x.val
theorem gN_gX (hr : (r : Int) = 288230376287764481) (m : Nat) : gN m = gX (of r (m : Int)) := by
  unfold gX
  refine gN_congr ?_
  have h := Obol.of_val (n := r) (m : Int)
  rw [hr] at h
  omega
theorem gX_T (hr : (r : Int) = 288230376287764481) {a : Int} (ha : w64 a) : gT a = gX (of r a) := by
  rw [gT_gN ha, gN_gX hr, Int.toNat_of_nonneg ha.1]
theorem gX_add (hr : (r : Int) = 288230376287764481) (x y : Fin r) : addG (gX x) (gX y) = gX (x + y) := by
  show addG (gN x.val) (gN y.val) = _
  rw [gN_add, gN_gX hr, Int.natCast_add, of_add, of_val_self, of_val_self]
theorem gX_mul (hr : (r : Int) = 288230376287764481) (x : Fin r) {k : Int} (hk : w64 k) : mulG (gX x) k = gX (x * of r k) := by
  show mulG (gN x.val) k = _
  rw [gN_mul _ hk, gN_gX hr, Int.natCast_mul, of_mul, of_val_self, Int.toNat_of_nonneg hk.1]
theorem gX_neg (hr : (r : Int) = 288230376287764481) (x : Fin r) : negG (gX x) = gX (-x) := by
  show negG (gN x.val) = _
  rw [gN_neg, gN_gX hr, Int.natCast_mul, of_mul, of_val_self]
  have h : of r ((288230376287764480 : Nat) : Int) = -1 := by
    have h1 := om hr (-1)
    rw [of_neg, of_one] at h1
    exact h1
  rw [h]
  congr 1
  grind
theorem gX_zero : gX (0 : Fin r) = (true, 0, 0) := by
  refine (eq_gN Pt.none ?_).symm
  have h : ((0 : Fin r).val : Nat) = 0 := by
    have := Obol.of_val (n := r) 0
    rw [of_zero, Int.zero_emod] at this
    omega
  rw [h]; rfl
theorem gX_prod (hr : (r : Int) = 288230376287764481) {a b c d a' b' c' d' : Fin r} (h : a * a' + b * b' + c * c' + d * d' = 0) : prodV [gX a, gX b, gX c, gX d] [gX a', gX b', gX c', gX d'] = ((1, 0), true) := by
  refine prod4 ?_
  have e : of r ((a.val * a'.val + b.val * b'.val + c.val * c'.val + d.val * d'.val : Nat) : Int) = of r 0 := by
    rw [Int.natCast_add, Int.natCast_add, Int.natCast_add, Int.natCast_mul, Int.natCast_mul, Int.natCast_mul, Int.natCast_mul, of_add, of_add, of_add, of_mul, of_mul, of_mul, of_mul]
    simp only [of_val_self, of_zero]
    exact h
  have e2 := Obol.of_eq.1 e
  rw [hr] at e2
  omega
def dx : List (Fin r) → List Int → Fin r
  | l :: L, v :: V => l * of r v + dx L V
  | _, _ => 0
theorem tog_X (hr : (r : Int) = 288230376287764481) : ∀ (L : List (Fin r)) (V : List Int) (x : Fin r), wV V → togF (gX x) (L.map gX) V = gX (x + dx L V)
  | [], V, x, _ => by simp only [List.map_nil, togF, dx]; congr 1; grind
  | l :: L, [], x, _ => by simp only [List.map_cons, togF, dx]; congr 1; grind
  | l :: L, v :: V, x, h => by
    simp only [List.map_cons, togF, dx]
    rw [gX_mul hr l (h v (by simp)), gX_add hr, tog_X hr L V _ fun w hw => h w (List.mem_cons_of_mem _ hw)]
    congr 1; grind
theorem dx_dt : ∀ (A V : List Int), dx (A.map (of r)) V = dt A V
  | [], V => by cases V <;> rfl
  | a :: A, [] => rfl
  | a :: A, v :: V => by simp only [List.map_cons, dx, dt, dx_dt A V]
theorem dx_sc (c : Fin r) : ∀ (L : List (Fin r)) (V : List Int), dx (L.map fun x => x * c) V = c * dx L V
  | [], V => by simp only [List.map_nil, dx]; grind
  | l :: L, [] => by simp only [List.map_cons, dx]; grind
  | l :: L, v :: V => by simp only [List.map_cons, dx, dx_sc c L V]; grind
theorem dx_cut : ∀ (k : Nat) (L : List (Fin r)) (V : List Int), dx L V = dx (L.take k) (V.take k) + dx (L.drop k) (V.drop k)
  | 0, L, V => by simp only [List.take_zero, List.drop_zero, dx]; grind
  | k + 1, [], V => by simp only [List.take_nil, List.drop_nil, dx]; grind
  | k + 1, l :: L, [] => by simp only [List.take_nil, List.drop_nil, List.take_succ_cons, dx]; cases (List.drop (k + 1) (l :: L)) <;> (simp only [dx]; grind)
  | k + 1, l :: L, v :: V => by
    simp only [List.take_succ_cons, List.drop_succ_cons, dx]
    rw [dx_cut k L V]; grind
theorem dx_u (α β : Fin r) : ∀ (A B C V : List Int), A.length = B.length → A.length = C.length → dx ((List.range A.length).map fun t => (β * of r (A.getD t 0) + α * of r (B.getD t 0)) + of r (C.getD t 0)) V = β * dt A V + α * dt B V + dt C V
  | [], [], [], V, _, _ => by simp only [List.length_nil, List.range_zero, List.map_nil, dx, dt]; grind
  | a :: A, b :: B, c :: C, [], _, _ => by simp only [List.length_cons, List.range_succ_eq_map, List.map_cons, dx, dt]; grind
  | a :: A, b :: B, c :: C, v :: V, h1, h2 => by
    have ih := dx_u α β A B C V (by simpa using h1) (by simpa using h2)
    simp only [List.length_cons, List.range_succ_eq_map, List.map_cons, List.map_map, dx, dt, List.getD_cons_zero]
    have e : (List.range A.length).map ((fun t => (β * of r ((a :: A).getD t 0) + α * of r ((b :: B).getD t 0)) + of r ((c :: C).getD t 0)) ∘ Nat.succ) = (List.range A.length).map fun t => (β * of r (A.getD t 0) + α * of r (B.getD t 0)) + of r (C.getD t 0) := by
      apply List.map_congr_left; intro t _; simp only [Function.comp, List.getD_cons_succ]
    rw [e, ih]; grind
  | [], b :: B, _, _, h, _ => by simp at h
  | [], [], c :: C, _, _, h => by simp at h
  | a :: A, [], _, _, h, _ => by simp at h
  | a :: A, b :: B, [], _, _, h => by simp at h
theorem dx_h (τ : Fin r) : ∀ (H : List Int) (M : Nat) (c : Fin r), H.length ≤ M → dx ((List.range M).map fun t => c * fp τ t) H = c * ev H τ
  | [], M, c, _ => by cases (List.range M).map (fun t => c * fp τ t) <;> (simp only [dx, ev]; grind)
  | h :: H, 0, c, e => by simp at e
  | h :: H, M + 1, c, e => by
    have ih := dx_h τ H M (c * τ) (by simpa using e)
    simp only [List.range_succ_eq_map, List.map_cons, List.map_map, dx, ev, fp]
    have e1 : (List.range M).map ((fun t => c * fp τ t) ∘ Nat.succ) = (List.range M).map fun t => c * τ * fp τ t := by
      apply List.map_congr_left; intro t _; simp only [Function.comp, fp]; grind
    rw [e1, ih]; grind
end
end Go.Proofs.Ytdbpjegocmdplaa.E.M
end
section
/- The statement GrothTells: a proof of values that hold holds for the public ones; it is read «as» it was written. -/
set_option linter.unusedVariables false
set_option linter.unusedSimpArgs false
set_option maxRecDepth 10000
open Go Go.Proofs.Ytdbpjegocmdplaa.E Go.Proofs
namespace Go.Proofs.Ytdbpjegocmdplaa.E.M
theorem dom_facts : ∀ k, k < 13 → ipow 288230376287764481 (rootF k) ((2 ^ k : Nat) : Int) = 1 ∧ (winv k * rootF k) % 288230376287764481 = 1 := by decide +kernel
theorem dom_half : ∀ h, h < 12 → ipow 288230376287764481 (winv (h + 1)) ((2 ^ h : Nat) : Int) = 288230376287764480 := by decide +kernel
theorem range_map {α : Type} (f : Int → α) (A : List Int) : ((List.range A.length).map fun t => f (A.getD t 0)) = A.map f := by
  refine List.ext_getElem (by simp) fun i h1 h2 => ?_
  simp only [List.length_map, List.length_range] at h1
  simp [List.getD_eq_getElem?_getD, List.getElem?_eq_getElem h1]
theorem holds_more {s : Rk} {V : List Int} (h : holdsF s V = nil_) : V.head? = some 1 ∧ greatF V = false := by
  unfold holdsF at h
  split at h
  · split at h
    · cases h
    · rename_i h2
      simp only [not_or, ne_eq, Decidable.not_not, Bool.not_eq_true] at h2
      exact h2.2
  · cases h
theorem hT_w {h : Int} (wh : w64 h) (ta : Int) : ∀ t, w64 (hT h ta t)
  | 0 => wh
  | t + 1 => w64_r _
section
variable {r : Nat} [NeZero r]
open Obol (of of_add of_mul of_sub of_zero of_one of_neg of_emod of_val_self)
theorem dom_ok (hr : (r : Int) = 288230376287764481) {k : Nat} (hk : k ≤ 12) : Dom r k := by
  obtain ⟨h1, h2⟩ := dom_facts k (by omega)
  obtain ⟨t1, t2⟩ := two_le hk
  have wr := rootF_w k hk
  refine ⟨?_, ?_, ?_⟩
  · have := pow_of hr (a := rootF k) (e := ((2 ^ k : Nat) : Int)) wr.1 ⟨by omega, by omega⟩
    rw [h1, of_one, Int.toNat_natCast] at this
    exact this.symm
  · have := om hr (winv k * rootF k)
    rw [h2, of_one, of_mul] at this
    exact this.symm
  · intro h hkh
    subst hkh
    have h3 := dom_half h (by omega)
    obtain ⟨t3, t4⟩ := two_le (k := h) (by omega)
    have ww : w64 (winv (h + 1)) := ipow_w wr.1 (by decide)
    have := pow_of hr (a := winv (h + 1)) (e := ((2 ^ h : Nat) : Int)) ww.1 ⟨by omega, by omega⟩
    rw [h3, Int.toNat_natCast] at this
    rw [← this]
    have h1 := om hr (-1)
    rw [of_neg, of_one] at h1
    exact h1
theorem inv_of (hr : (r : Int) = 288230376287764481) (hp : Obol.IsPrime r) {y : Int} (hw : 0 < y) (hyl : y < 288230376287764481) : of r (ipow 288230376287764481 y 288230376287764479) * of r y = 1 := by
  rw [pow_of hr (by omega) (by decide)]
  have h1 : ¬ r ∣ y.toNat := by
    intro h
    have := Nat.le_of_dvd (by omega) h
    omega
  have h2 := Obol.fermat hp h1
  have h3 : (y ^ 288230376287764480 : Int) % 288230376287764481 = 1 := by
    have e : ((y.toNat ^ (r - 1) % r : Nat) : Int) = 1 := by rw [h2]; rfl
    rw [Int.natCast_emod, Int.natCast_pow, Int.toNat_of_nonneg (by omega), hr] at e
    rw [show r - 1 = 288230376287764480 by omega] at e
    exact e
  have h4 := om hr (y ^ 288230376287764480)
  rw [h3, of_one, of_pow] at h4
  rw [h4]
  rfl
theorem aT_X (hr : (r : Int) = 288230376287764481) {A : List Int} {n : Nat} (hn : A.length = n) (hA : wV A) : aT A n = (A.map (of r)).map gX := by
  subst hn
  unfold aT
  rw [range_map gT A, List.map_map]
  exact List.map_congr_left fun a ha => gX_T hr (hA a ha)
/-- the mixed numbers -/
def us (r : Nat) [NeZero r] (α β : Fin r) (A B C : List Int) : List (Fin r) := (List.range A.length).map fun t => (β * of r (A.getD t 0) + α * of r (B.getD t 0)) + of r (C.getD t 0)
theorem uT_of (hr : (r : Int) = 288230376287764481) (al be : Int) (A B C : List Int) (t : Nat) : of r (uT al be A B C t) = (of r be * of r (A.getD t 0) + of r al * of r (B.getD t 0)) + of r (C.getD t 0) := by
  unfold uT uF
  rw [om hr, of_add, om hr, of_add, om hr, of_mul, om hr, of_mul]
theorem us_cut (α β : Fin r) (A B C : List Int) {p q : Nat} (hA : A.length = p + 1 + q) : (us r α β A B C).take (p + 1) = ((List.range (p + 1)).map fun t => (β * of r (A.getD t 0) + α * of r (B.getD t 0)) + of r (C.getD t 0)) ∧ (us r α β A B C).drop (p + 1) = ((List.range q).map fun t => (β * of r (A.getD (t + (p + 1)) 0) + α * of r (B.getD (t + (p + 1)) 0)) + of r (C.getD (t + (p + 1)) 0)) := by
  unfold us
  rw [hA, List.range_add, List.map_append]
  have l : ((List.range (p + 1)).map fun t => (β * of r (A.getD t 0) + α * of r (B.getD t 0)) + of r (C.getD t 0)).length = p + 1 := by simp
  constructor
  · rw [List.take_left' l]
  · rw [List.drop_left' l, List.map_map]
    apply List.map_congr_left
    intro t _
    simp only [Function.comp, Nat.add_comm (p + 1) t]
theorem iT_X (hr : (r : Int) = 288230376287764481) {A B C : List Int} {p n : Nat} (hp : p < n) (hA : A.length = n) (al be gi : Int) : iT p al be gi A B C n = (((us r (of r al) (of r be) A B C).take (p + 1)).map (fun x => x * of r gi)).map gX := by
  obtain ⟨q, rfl⟩ : ∃ q, n = (p + 1) + q := ⟨n - (p + 1), by omega⟩
  unfold iT
  rw [(range_le p _ hp).1, (us_cut _ _ A B C hA).1, List.map_map, List.map_map]
  apply List.map_congr_left
  intro t _
  rw [gX_T hr (w64_r _), om hr, of_mul, uT_of hr]
  rfl
theorem lT_X (hr : (r : Int) = 288230376287764481) {A B C : List Int} {p n : Nat} (hp : p < n) (hA : A.length = n) (al be di : Int) : lT p al be di A B C n = (((us r (of r al) (of r be) A B C).drop (p + 1)).map (fun x => x * of r di)).map gX := by
  obtain ⟨q, rfl⟩ : ∃ q, n = (p + 1) + q := ⟨n - (p + 1), by omega⟩
  unfold lT
  rw [(range_le p _ hp).2, (us_cut _ _ A B C hA).2, List.map_map, List.map_map, List.map_map, show p + 1 + q - 1 - p = q by omega]
  apply List.map_congr_left
  intro t _
  simp only [Function.comp]
  rw [gX_T hr (w64_r _), om hr, of_mul, uT_of hr]
theorem hT_of (hr : (r : Int) = 288230376287764481) (h ta : Int) : ∀ t, of r (hT h ta t) = of r h * fp (of r ta) t
  | 0 => by simp only [hT, fp]; grind
  | t + 1 => by simp only [hT, fp]; rw [om hr, of_mul, hT_of hr h ta t]; grind
theorem hL_X (hr : (r : Int) = 288230376287764481) {h : Int} (wh : w64 h) (ta : Int) (M : Nat) : hL h ta M = ((List.range M).map fun t => of r h * fp (of r ta) t).map gX := by
  unfold hL
  rw [List.map_map]
  apply List.map_congr_left
  intro t _
  rw [gX_T hr (hT_w wh ta t), hT_of hr]
  rfl
theorem proA_X (hr : (r : Int) = 288230376287764481) {al de t : Int} {A V : List Int} {n : Nat} (hn : A.length = n) (hA : wV A) (wal : w64 al) (wde : w64 de) (wt : w64 t) (hV : wV V) : proA (gT al) (gT de) (aT A n) V t = gX (of r al + dt A V + of r de * of r t) := by
  unfold proA
  rw [aT_X hr hn hA, gX_T hr wal, gX_T hr wde, tog_X hr _ _ _ hV, dx_dt, gX_mul hr _ wt, gX_add hr]
theorem fin_id {α β γ δ g d a b i c AA BB CC S1 S2 z H u t : Fin r} (hg : g * γ = 1) (hd : d * δ = 1) (hS : S1 + S2 = β * AA + α * BB + CC) (hq : AA * BB - CC = z * H) (ha : a = α + AA + δ * u) (hb : b = β + BB + δ * t) (hi : i = g * S1) (hc : c = 0 + d * S2 + z * d * H + a * t + b * u + -(δ * (u * t))) : a * b + -α * β + -i * γ + -c * δ = 0 := by
  have e1 : i * γ = S1 := by rw [hi]; grind
  have e2 : c * δ = S2 + z * H + a * t * δ + b * u * δ - δ * (u * t) * δ := by
    have e3 : c * δ = d * δ * S2 + z * (d * δ) * H + a * t * δ + b * u * δ - δ * (u * t) * δ := by rw [hc]; grind
    rw [e3, hd]; grind
  have e4 : a * b + -α * β + -i * γ + -c * δ = a * b - α * β - (i * γ) - (c * δ) := by grind
  rw [e4, e1, e2, ← hq]
  have e5 : S2 = β * AA + α * BB + CC - S1 := by grind
  rw [e5, ha, hb]
  grind
theorem tells_nums (hr : (r : Int) = 288230376287764481) (hpr : Obol.IsPrime r) {s : Rk} {V : List Int} {n p : Nat} {al be ga de ta u_ t_ : Int} (hl : s.l.length ≤ 4096) (hv : s.v = n) (hpn : p < n) (wal : w64 al) (wbe : w64 be) (wga : w64 ga) (wde : w64 de) (wta : w64 ta) (wu : w64 u_) (wt : w64 t_)
    (ga0 : 0 < ga) (gaR : ga < 288230376287764481) (de0 : 0 < de) (deR : de < 288230376287764481) (hz : zF (lg s.l.length) ta ≠ 0) (hV : V.length = n) (hV1 : V.head? = some 1) (hVg : greatF V = false) (wV_ : wV V) (hin : ∀ w ∈ s.l, inT n w.a ∧ inT n w.b ∧ inT n w.c) (hok : vanOk (2 ^ lg s.l.length) (quoP s V) = true)
    (A B C H : List Int) (eA : atL Rw.a s ta = A) (eB : atL Rw.b s ta = B) (eC : atL Rw.c s ta = C) (eH : hsF s V = H) (lA : A.length = n) (lB : B.length = n) (lC : C.length = n) (wA : wV A) (wB : wV B) (wH : wV H) (lH : H.length ≤ 2 ^ lg s.l.length - 1) (z : Int) (ez : zF (lg s.l.length) ta = z) (gi di : Int) (egi : ipow 288230376287764481 ga 288230376287764479 = gi) (edi : ipow 288230376287764481 de 288230376287764479 = di) :
    verF (gT al) (gT be) (gT ga) (gT de) (iT p al be gi A B C n) ((V.drop 1).take p) (proA (gT al) (gT de) (aT A n) V u_) (proA (gT be) (gT de) (aT B n) V t_) (proC (gT de) (proA (gT al) (gT de) (aT A n) V u_) (proA (gT be) (gT de) (aT B n) V t_) (lT p al be di A B C n) (hL (z * di % 288230376287764481) ta (2 ^ lg s.l.length - 1)) p V H u_ t_) = nil_ ∧
    inG (proA (gT al) (gT de) (aT A n) V u_) = true ∧ inG (proA (gT be) (gT de) (aT B n) V t_) = true ∧ inG (proC (gT de) (proA (gT al) (gT de) (aT A n) V u_) (proA (gT be) (gT de) (aT B n) V t_) (lT p al be di A B C n) (hL (z * di % 288230376287764481) ta (2 ^ lg s.l.length - 1)) p V H u_ t_) = true := by
  have hk := (lg_le hl).1
  have D := dom_ok hr hk
  have wz : z < 288230376287764481 ∧ 0 ≤ z := by rw [← ez]; exact ⟨Int.emod_lt_of_pos _ (by decide), Int.emod_nonneg _ (by decide)⟩
  have hz' : of r (zF (lg s.l.length) ta) ≠ 0 := by
    rw [ez] at hz ⊢
    intro h
    have h0 : of r z = of r 0 := by rw [h, of_zero]
    exact hz (Obol.of_inj wz.2 (by rw [hr]; exact wz.1) (by decide) (by rw [hr]; decide) h0)
  have hq := quo_ev hr hpr hl D wta hz' hv hV hin hok
  rw [eA, eB, eC, eH, ez] at hq
  have hg := inv_of hr hpr ga0 gaR
  have hd := inv_of hr hpr de0 deR
  rw [egi] at hg
  rw [edi] at hd
  have hu := dx_u (r := r) (of r al) (of r be) A B C V (by omega) (by omega)
  have hc2 := dx_cut (p + 1) (us r (of r al) (of r be) A B C) V
  have eus : ((List.range A.length).map fun t => (of r be * of r (A.getD t 0) + of r al * of r (B.getD t 0)) + of r (C.getD t 0)) = us r (of r al) (of r be) A B C := rfl
  rw [eus] at hu
  rw [hu] at hc2
  have xA := proA_X hr lA wA wal wde wu wV_
  have xB := proA_X hr lB wB wbe wde wt wV_
  have xi := iT_X hr (B := B) (C := C) hpn lA al be gi
  have xl := lT_X hr (B := B) (C := C) hpn lA al be di
  have xh := hL_X hr (h := z * di % 288230376287764481) (w64_r _) ta (2 ^ lg s.l.length - 1)
  have eh0 : of r (z * di % 288230376287764481) = of r z * of r di := by rw [om hr, of_mul]
  rw [xA, xB]
  obtain ⟨V1, rfl⟩ : ∃ V1, V = 1 :: V1 := by
    cases V with
    | nil => simp at hV1
    | cons v V1 => simp only [List.head?_cons, Option.some.injEq] at hV1; exact ⟨V1, by rw [hV1]⟩
  have wVd : wV ((1 :: V1).drop (1 + p)) := fun v h => wV_ v (List.mem_of_mem_drop h)
  have xc : proC (gT de) (gX (of r al + dt A (1 :: V1) + of r de * of r u_)) (gX (of r be + dt B (1 :: V1) + of r de * of r t_)) (lT p al be di A B C n) (hL (z * di % 288230376287764481) ta (2 ^ lg s.l.length - 1)) p (1 :: V1) H u_ t_ =
      gX (0 + of r di * dx ((us r (of r al) (of r be) A B C).drop (p + 1)) ((1 :: V1).drop (p + 1)) + of r z * of r di * ev H (of r ta) + (of r al + dt A (1 :: V1) + of r de * of r u_) * of r t_ + (of r be + dt B (1 :: V1) + of r de * of r t_) * of r u_ + -(of r de * (of r u_ * of r t_))) := by
    unfold proC
    rw [xl, xh, ← gX_zero (r := r), tog_X hr _ _ _ wVd, dx_sc, tog_X hr _ _ _ wH, dx_h _ _ _ _ lH, eh0, gX_mul hr _ wt, gX_add hr, gX_mul hr _ wu, gX_add hr, gX_T hr wde, gX_mul hr _ (w64_r _), om hr, of_mul, gX_neg hr, gX_add hr, Nat.add_comm 1 p]
  rw [xc]
  refine ⟨?_, gN_in _, gN_in _, gN_in _⟩
  generalize hxa : of r al + dt A (1 :: V1) + of r de * of r u_ = a at *
  generalize hxb : of r be + dt B (1 :: V1) + of r de * of r t_ = b at *
  generalize hxc : 0 + of r di * dx ((us r (of r al) (of r be) A B C).drop (p + 1)) ((1 :: V1).drop (p + 1)) + of r z * of r di * ev H (of r ta) + a * of r t_ + b * of r u_ + -(of r de * (of r u_ * of r t_)) = c at *
  have li := iT_len hpn al be gi A B C
  have lV1 : V1.length + 1 = n := by simpa using hV
  have lVs : ((1 :: V1).drop 1).take p = V1.take p := rfl
  have gi_ : ∀ x : Fin r, inG (gX x) = true := fun x => gN_in _
  unfold verF
  rw [lVs, li, if_neg ?h1, if_neg ?h2, if_neg ?h3]
  case h1 =>
    rintro (h | h)
    · apply h
      rw [List.length_take, Nat.min_eq_left (by omega)]
      omega
    · rw [List.any_eq_true] at h
      obtain ⟨v, hv1, hv2⟩ := h
      have : greatF (1 :: V1) = true := by
        unfold greatF
        rw [List.any_eq_true]
        exact ⟨v, List.mem_cons_of_mem _ (List.mem_of_mem_take hv1), hv2⟩
      rw [hVg] at this; cases this
  case h2 =>
    rw [xi, gX_T hr wal, gX_T hr wbe, gX_T hr wga, gX_T hr wde, List.any_eq_true]
    rintro ⟨g, hg1, hg2⟩
    have : ∃ x : Fin r, g = gX x := by
      simp only [List.mem_cons] at hg1
      rcases hg1 with rfl | rfl | rfl | rfl | hg1
      · exact ⟨_, rfl⟩
      · exact ⟨_, rfl⟩
      · exact ⟨_, rfl⟩
      · exact ⟨_, rfl⟩
      · obtain ⟨x, _, rfl⟩ := List.mem_map.1 hg1
        exact ⟨x, rfl⟩
    obtain ⟨x, rfl⟩ := this
    rw [gi_] at hg2; cases hg2
  case h3 =>
    rw [gi_, gi_, gi_]; decide
  unfold eqF
  -- the publics' sum
  have hL : ∃ l L, ((us r (of r al) (of r be) A B C).take (p + 1)).map (fun x => x * of r gi) = l :: L := by
    cases e : ((us r (of r al) (of r be) A B C).take (p + 1)).map (fun x => x * of r gi) with
    | nil =>
      rw [xi, e] at li
      simp at li
    | cons l L => exact ⟨l, L, rfl⟩
  obtain ⟨l, L, eL⟩ := hL
  have wV1 : wV (V1.take p) := fun v h => wV_ v (List.mem_cons_of_mem _ (List.mem_of_mem_take h))
  rw [xi, eL, List.map_cons, List.headD_cons, List.tail_cons, tog_X hr _ _ _ wV1]
  have es : l + dx L (V1.take p) = of r gi * dx ((us r (of r al) (of r be) A B C).take (p + 1)) ((1 :: V1).take (p + 1)) := by
    rw [← dx_sc, eL, List.take_succ_cons]
    simp only [dx, of_one]
    grind
  rw [es, gX_T hr wal, gX_T hr wbe, gX_T hr wga, gX_T hr wde, gX_neg hr, gX_neg hr, gX_neg hr]
  rw [gX_prod hr (fin_id hg hd hc2.symm hq hxa.symm hxb.symm rfl hxc.symm)]
  rfl
end
/-! ### a proof's bytes, read -/
theorem readP_bytes {a : P3} (h : Pt a) (rest : List Int) : (bytesG a ++ rest).length ≥ szR (bytesG a ++ rest) ∧ readP ((bytesG a ++ rest).take (szR (bytesG a ++ rest))) = (a, true) ∧ (bytesG a ++ rest).drop (szR (bytesG a ++ rest)) = rest := by
  obtain ⟨b, x, y⟩ := a
  cases b with
  | true =>
    obtain ⟨rfl, rfl⟩ := Pt.inf (x := x) (y := y) h
    exact ⟨by show 1 ≤ _; simp [bytesG, bytesP], rfl, rfl⟩
  | false =>
    have hx := h.w3.1
    have hy := h.w3.2
    have e : bytesG (false, x, y) = 1 :: (be x ++ be y) := rfl
    have lb : (be x ++ be y).length = 16 := rfl
    have hs : szR (bytesG (false, x, y) ++ rest) = 17 := rfl
    rw [hs]
    have ht : (bytesG (false, x, y) ++ rest).take 17 = 1 :: (be x ++ be y) := by rw [e, List.take_left' (by rw [List.length_cons, lb])]
    have hd : (bytesG (false, x, y) ++ rest).drop 17 = rest := by rw [e, List.drop_left' (by rw [List.length_cons, lb])]
    refine ⟨by rw [e, List.length_append, List.length_cons, lb]; omega, ?_, hd⟩
    rw [ht]
    unfold readP
    rw [if_neg (by intro e; injection e with e; cases e), if_pos ⟨rfl, rfl⟩]
    have e1 : (1 :: (be x ++ be y)).drop 1 = be x ++ be y := rfl
    have e2 : (1 :: (be x ++ be y)).drop 9 = be y ++ [] := by rw [List.append_nil]; rfl
    rw [e1, e2, num_be hx, num_be hy]
    exact if_pos h
theorem oneR_bytes {a : P3} (h : Pt a) (hi : inG a = true) (rest : List Int) : oneR (bytesG a ++ rest) = some (a, rest) := by
  obtain ⟨h1, h2, h3⟩ := readP_bytes h rest
  unfold oneR
  rw [if_neg (by omega), h2]
  show (if inG a = true then some (a, (bytesG a ++ rest).drop (szR (bytesG a ++ rest))) else none) = _
  rw [if_pos hi, h3]
theorem readG_bytes {a b c : P3} (ha : Pt a) (hb : Pt b) (hc : Pt c) (ia : inG a = true) (ib : inG b = true) (ic : inG c = true) : readG (bytesG a ++ bytesG b ++ bytesG c) = .tup [pf a b c, nil_] := by
  unfold readG
  rw [fromR_Q, List.append_assoc]
  have ec := oneR_bytes hc ic []
  rw [List.append_nil] at ec
  simp only [fromQ, oneR_bytes ha ia, oneR_bytes hb ib, ec, if_true, reduceIte, Nat.zero_add]
  rfl
theorem bytesG_b8 {a : P3} : ∀ v ∈ bytesG a, b8 v := by
  obtain ⟨b, x, y⟩ := a
  unfold bytesG bytesP
  split
  · intro v hv; simp at hv; subst hv; exact ⟨by decide, by decide⟩
  · intro v hv
    rcases List.mem_cons.1 hv with rfl | hv
    · exact ⟨by decide, by decide⟩
    · rcases List.mem_append.1 hv with hv | hv
      · exact be_b8 _ v hv
      · exact be_b8 _ v hv
theorem obollaw15_GrothTells_c {s : Rk} {al be ga de ta : Int} {V : List Int} {u_ t_ : Int} (hW : wR s) (wal : w64 al) (wbe : w64 be) (wga : w64 ga) (wde : w64 de) (wta : w64 ta) (hV : wV V) (wu : w64 u_) (wt : w64 t_) : Fn Try.prog 6 [.agg (rk s), .agg [u al, u be, u ga, u de, u ta], ul V, u u_, u t_] [] (fun r _ => r = bo true) := by
  cases hg : (!smallG s || decide ((V.length : Int) > 5000)) with
  | true => exact tells_g hg
  | false =>
  simp only [Bool.or_eq_false_iff, Bool.not_eq_false'] at hg
  obtain ⟨hs, hv⟩ := hg
  have lV : V.length < 1000000000 := by simp only [decide_eq_false_iff_not] at hv; omega
  have hS := light14_len (small_light hs)
  have cs := groth_Setup_c hS wal wbe wga wde wta
  rcases setF_kinds s al be ga de ta with ⟨n, h⟩ | ⟨hc, hz, hge, h0, h⟩
  · rw [h] at cs
    obtain ⟨e, he, cp⟩ := groth_Prove_z (s := s) (V := V) (r := u_) (t := t_) hS hW hV lV
    rcases he with ⟨m, rfl⟩ | ⟨m, rfl⟩
    · exact tells_s1 hs hv cs cp
    · exact tells_s2 hs hv cs cp
  rw [h] at cs
  obtain ⟨n, hn, n1, n2, p0, pn, hl⟩ := chk_vg hc
  obtain ⟨p, hp⟩ := Int.eq_ofNat_of_zero_le p0
  rw [hp] at pn
  have hpn : p < n := by omega
  have hvn : s.v.toNat = n := by omega
  have hpp : s.p.toNat = p := by omega
  unfold keysF at cs
  rw [hvn, hp] at cs
  rcases quo_c hS hW hV lV with ⟨e, he, cq⟩ | ⟨_, hh, hok, cq⟩
  · have cp := fun (A B D : P3) (LA LB LL LH : List P3) => groth_Prove_e (A := A) (B := B) (D := D) (LA := LA) (LB := LB) (LL := LL) (LH := LH) (r := u_) (t := t_) he cq
    rcases he with ⟨m, rfl⟩ | ⟨m, rfl⟩
    · exact tells_p1 hs hv cs (cp _ _ _ _ _ _ _)
    · exact tells_p2 hs hv cs (cp _ _ _ _ _ _ _)
  have hvl := (holds_len hh).1
  obtain ⟨hV1, hVg⟩ := holds_more hh
  have hin := chk_in hc hn
  have lA : ∀ sel, (atL sel s ta).length = n := fun sel => by unfold atL; rw [atF_len, List.length_replicate, hn]; rfl
  have wA : ∀ sel, wV (atL sel s ta) := fun sel => atF_w _ _ _ _ _ (by intro v hv; rw [List.eq_of_mem_replicate hv]; decide)
  have wH := hs_w s V
  have lH := hs_len V hl
  have nz : ∀ v ∈ [al, be, ga, de, ta], v < 288230376287764481 ∧ (0:Int) ≠ v := by
    intro v hv
    constructor
    · rcases Int.lt_or_le v 288230376287764481 with h1 | h1
      · exact h1
      · have : ([al, be, ga, de, ta].any fun v => decide (v ≥ 288230376287764481)) = true := List.any_eq_true.2 ⟨v, hv, by simpa using h1⟩
        rw [hge] at this; cases this
    · intro e
      have : ([al, be, ga, de, ta].any fun v => (0:Int) == v) = true := List.any_eq_true.2 ⟨v, hv, by rw [← e]; rfl⟩
      rw [h0] at this; cases this
  have ng := nz ga (by simp)
  have nd := nz de (by simp)
  haveI : NeZero (288230376287764481 : Nat) := ⟨by decide⟩
  have nums := tells_nums (r := 288230376287764481) rfl Obol.prime_R (u_ := u_) (t_ := t_) hl hn hpn wal wbe wga wde wta wu wt (by omega) ng.1 (by omega) nd.1 hz (by omega) hV1 hVg hV hin hok _ _ _ _ rfl rfl rfl rfl (lA _) (lA _) (lA _) (wA _) (wA _) wH lH _ rfl _ _ rfl rfl
  have lL := lT_len hpn al be (ipow 288230376287764481 de 288230376287764479) (atL Rw.a s ta) (atL Rw.b s ta) (atL Rw.c s ta)
  have lHL := hL_len (zF (lg s.l.length) ta * ipow 288230376287764481 de 288230376287764479 % 288230376287764481) ta (2 ^ lg s.l.length - 1)
  have cp := groth_Prove_o (s := s) (V := V) (r := u_) (t := t_) hS hc cq (gT_pt al).w3 (gT_pt be).w3 (gT_pt de).w3 (aT_w (atL Rw.a s ta) n) (aT_w (atL Rw.b s ta) n) (LL := lT p al be (ipow 288230376287764481 de 288230376287764479) (atL Rw.a s ta) (atL Rw.b s ta) (atL Rw.c s ta) n) mem_gT (hL_w (zF (lg s.l.length) ta * ipow 288230376287764481 de 288230376287764479 % 288230376287764481) ta (2 ^ lg s.l.length - 1)) (by rw [aT_len]; omega) (by rw [aT_len]; omega) (by rw [lL, hp]; omega) lHL hV (by omega) wH (by rw [lHL]; exact lH) wu wt
  rw [hpp] at cp
  by_cases hb : u_ ≥ 288230376287764481 ∨ t_ ≥ 288230376287764481
  · rw [if_pos hb] at cp
    exact tells_p1 hs hv cs cp
  rw [if_neg hb] at cp
  have pa : Pt (proA (gT al) (gT de) (aT (atL Rw.a s ta) n) V u_) := addG_pt _ _
  have pb : Pt (proA (gT be) (gT de) (aT (atL Rw.b s ta) n) V t_) := addG_pt _ _
  have pc : Pt (proC (gT de) (proA (gT al) (gT de) (aT (atL Rw.a s ta) n) V u_) (proA (gT be) (gT de) (aT (atL Rw.b s ta) n) V t_) (lT p al be (ipow 288230376287764481 de 288230376287764479) (atL Rw.a s ta) (atL Rw.b s ta) (atL Rw.c s ta) n) (hL (zF (lg s.l.length) ta * ipow 288230376287764481 de 288230376287764479 % 288230376287764481) ta (2 ^ lg s.l.length - 1)) p V (hsF s V) u_ t_) := addG_pt _ _
  generalize proC (gT de) (proA (gT al) (gT de) (aT (atL Rw.a s ta) n) V u_) (proA (gT be) (gT de) (aT (atL Rw.b s ta) n) V t_) (lT p al be (ipow 288230376287764481 de 288230376287764479) (atL Rw.a s ta) (atL Rw.b s ta) (atL Rw.c s ta) n) (hL (zF (lg s.l.length) ta * ipow 288230376287764481 de 288230376287764479 % 288230376287764481) ta (2 ^ lg s.l.length - 1)) p V (hsF s V) u_ t_ = c at *
  generalize proA (gT al) (gT de) (aT (atL Rw.a s ta) n) V u_ = a at *
  generalize proA (gT be) (gT de) (aT (atL Rw.b s ta) n) V t_ = b at *
  obtain ⟨hver, ia, ib, ic⟩ := nums
  have cv := groth_Verify_c (A := gT al) (B := gT be) (C := gT ga) (D := gT de) (I := iT p al be (ipow 288230376287764481 ga 288230376287764479) (atL Rw.a s ta) (atL Rw.b s ta) (atL Rw.c s ta) n) (V := (V.drop 1).take p) (a := a) (b := b) (c := c)
    (gT_pt al).w3 (gT_pt be).w3 (gT_pt ga).w3 (gT_pt de).w3 mem_gT (by rw [iT_len hpn]; omega) (fun v hv => hV v (List.mem_of_mem_drop (List.mem_of_mem_take hv))) (by rw [List.length_take, List.length_drop]; omega) pa.w3 pb.w3 pc.w3
  rw [hver] at cv
  have cw := groth_Write_c pa.w3 pb.w3 pc.w3
  have hw : writeG a b c = .tup [sl8 (bytesG a ++ bytesG b ++ bytesG c), nil_] := by
    unfold writeG
    have h1 : isG a = true := pa
    have h2 : isG b = true := pb
    have h3 : isG c = true := pc
    rw [h1, h2, h3]
    exact if_pos rfl
  rw [hw] at cw
  have cr := groth_Read_c (b := bytesG a ++ bytesG b ++ bytesG c) (by
    intro v hv
    rcases List.mem_append.1 hv with hv | hv
    · rcases List.mem_append.1 hv with hv | hv
      · exact bytesG_b8 v hv
      · exact bytesG_b8 v hv
    · exact bytesG_b8 v hv) (by
    have h1 := bytesG_len a
    have h2 := bytesG_len b
    have h3 := bytesG_len c
    rw [List.length_append, List.length_append]; omega)
  rw [readG_bytes pa pb pc ia ib ic] at cr
  exact tells_ok hs hv hp (by omega) cs cp cv cw cr
end Go.Proofs.Ytdbpjegocmdplaa.E.M
end
section
/- What is handed in: proofs, bytes, draws, systems, numbers. -/
set_option linter.unusedVariables false
set_option linter.unusedSimpArgs false
set_option maxRecDepth 10000
open Go Go.Proofs.Ytdbpjegocmdplaa.E Go.Proofs
namespace Go.Proofs.Ytdbpjegocmdplaa.E.M
abbrev i64b (a : Int) : Prop := -9223372036854775808 ≤ a ∧ a < 9223372036854775808
theorem wf_w64q {a : Int} (h : (Lit.int .u64 a).wf = true) : w64 a := by
  simp [Lit.wf, IntKind.min, IntKind.max, IntKind.bits, IntKind.signed] at h
  omega
theorem wf_i64q {a : Int} (h : (Lit.int .i64 a).wf = true) : i64b a := by
  simp [Lit.wf, IntKind.min, IntKind.max, IntKind.bits, IntKind.signed] at h
  unfold i64b
  omega
theorem open_u64q {c : AV} (h : PV Try.prog 6 25 c) : ∃ n, c = u n ∧ w64 n := by
  obtain ⟨avs, ⟨n, hn, rfl⟩, hc⟩ := h
  have hc : [AV.val (.int .u64 n)] = [c] := hc
  simp only [List.cons.injEq, and_true] at hc
  exact ⟨n, hc.symm, wf_w64q hn⟩
theorem ta_u64s {k : Nat} : ∀ {es : List (List AV)}, (∀ x ∈ es, TA Try.prog (k + 1) 25 x) → ∃ L : List Int, L.length = es.length ∧ fm u1 L = es.flatten ∧ wV L
  | [], _ => ⟨[], rfl, rfl, by intro v hv; cases hv⟩
  | e :: es, h => by
    obtain ⟨g, hg, rfl⟩ := h e List.mem_cons_self
    obtain ⟨L, h1, h2, h3⟩ := ta_u64s fun x hx => h x (List.mem_cons_of_mem _ hx)
    refine ⟨g :: L, by simp [h1], by rw [List.flatten_cons, ← h2]; rfl, ?_⟩
    intro g' hg'
    rcases List.mem_cons.1 hg' with rfl | hg'
    · exact wf_w64q hg
    · exact h3 _ hg'
theorem open_u64s {c : AV} (h : PV Try.prog 6 28 c) : ∃ L : List Int, c = ul L ∧ L.length ≤ 9223372036854775807 ∧ wV L := by
  obtain ⟨avs, ⟨es, hl, rfl, he⟩, hc⟩ := h
  have hc : [AV.sl es.length es.flatten] = [c] := hc
  simp only [List.cons.injEq, and_true] at hc
  subst hc
  obtain ⟨L, h1, h2, h3⟩ := ta_u64s he
  exact ⟨L, by rw [ul_def, h1, h2], by rw [h1]; exact hl, h3⟩
theorem ta_terms {k : Nat} : ∀ {es : List (List AV)}, (∀ x ∈ es, TA Try.prog (k + 2) 90 x) → ∃ L : List Tm, L.length = es.length ∧ fm tm L = es.flatten ∧ wT L
  | [], _ => ⟨[], rfl, rfl, by intro v hv; cases hv⟩
  | e :: es, h => by
    obtain ⟨a1, b1, rfl, ⟨v, hv, rfl⟩, a2, b2, rfl, ⟨o, ho, rfl⟩, hb2⟩ := h e List.mem_cons_self
    have e2 : b2 = [] := hb2
    subst e2
    obtain ⟨L, h1, h2, h3⟩ := ta_terms fun x hx => h x (List.mem_cons_of_mem _ hx)
    refine ⟨⟨v, o⟩ :: L, by simp [h1], by rw [List.flatten_cons, ← h2]; rfl, ?_⟩
    intro g' hg'
    rcases List.mem_cons.1 hg' with rfl | hg'
    · exact wf_w64q ho
    · exact h3 _ hg'
theorem ta_terml {k : Nat} {x : List AV} (h : TA Try.prog (k + 3) 91 x) : ∃ L : List Tm, x = [slF tm L] ∧ wT L := by
  obtain ⟨es, hl, rfl, he⟩ := h
  obtain ⟨L, h1, h2, h3⟩ := ta_terms he
  exact ⟨L, by rw [show slF tm L = .sl L.length (fm tm L) from rfl, h1, h2], h3⟩
theorem ta_rows : ∀ {es : List (List AV)}, (∀ x ∈ es, TA Try.prog 4 93 x) → ∃ L : List Rw, L.length = es.length ∧ fm rw_ L = es.flatten ∧ ∀ r ∈ L, wT r.a ∧ wT r.b ∧ wT r.c
  | [], _ => ⟨[], rfl, rfl, by intro v hv; cases hv⟩
  | e :: es, h => by
    obtain ⟨a1, b1, rfl, h1, a2, b2, rfl, h2, a3, b3, rfl, h3, hb3⟩ := h e List.mem_cons_self
    have e3 : b3 = [] := hb3
    subst e3
    obtain ⟨A, rfl, wA⟩ := ta_terml (k := 0) h1
    obtain ⟨B, rfl, wB⟩ := ta_terml (k := 0) h2
    obtain ⟨C, rfl, wC⟩ := ta_terml (k := 0) h3
    obtain ⟨L, h1, h2, h3⟩ := ta_rows fun x hx => h x (List.mem_cons_of_mem _ hx)
    refine ⟨⟨A, B, C⟩ :: L, by simp [h1], by rw [List.flatten_cons, ← h2]; rfl, ?_⟩
    intro g' hg'
    rcases List.mem_cons.1 hg' with rfl | hg'
    · exact ⟨wA, wB, wC⟩
    · exact h3 _ hg'
theorem open_rank {c : AV} (h : PV Try.prog 6 24 c) : ∃ s : Rk, c = .agg (rk s) ∧ i64b s.v ∧ i64b s.p ∧ wR s := by
  obtain ⟨avs, ⟨a1, b1, rfl, ⟨v, hv, rfl⟩, a2, b2, rfl, ⟨o, ho, rfl⟩, a3, b3, rfl, ⟨es, hl, rfl, he⟩, hb3⟩, hc⟩ := h
  have e3 : b3 = [] := hb3
  subst e3
  obtain ⟨L, h1, h2, h3⟩ := ta_rows he
  refine ⟨⟨v, o, L⟩, ?_, wf_i64q hv, wf_i64q ho, h3⟩
  have hc : c = .agg _ := hc
  rw [hc]
  show AV.agg [i v, i o, .sl es.length es.flatten] = AV.agg [i v, i o, .sl L.length (fm rw_ L)]
  rw [h1, h2]
theorem open_draws {c : AV} (h : PV Try.prog 6 27 c) : ∃ al be ga de ta : Int, c = .agg [u al, u be, u ga, u de, u ta] ∧ w64 al ∧ w64 be ∧ w64 ga ∧ w64 de ∧ w64 ta := by
  obtain ⟨avs, ⟨a1, b1, rfl, ⟨v1, h1, rfl⟩, a2, b2, rfl, ⟨v2, h2, rfl⟩, a3, b3, rfl, ⟨v3, h3, rfl⟩, a4, b4, rfl, ⟨v4, h4, rfl⟩, a5, b5, rfl, ⟨v5, h5, rfl⟩, hb5⟩, hc⟩ := h
  have e5 : b5 = [] := hb5
  subst e5
  exact ⟨v1, v2, v3, v4, v5, hc, wf_w64q h1, wf_w64q h2, wf_w64q h3, wf_w64q h4, wf_w64q h5⟩
end Go.Proofs.Ytdbpjegocmdplaa.E.M
end
