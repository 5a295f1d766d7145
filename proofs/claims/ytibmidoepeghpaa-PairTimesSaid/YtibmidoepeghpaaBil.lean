/- The pairing is linear on both sides, without any program. -/
import Derived.Test.YtibmidoepeghpaaCoc
namespace Obol
section
variable {n : Nat} [NeZero n] {s : Fin n}
theorem mul2_left (a b c : E2 n) : mul2 a (mul2 b c) = mul2 b (mul2 a c) := by rw [← mul2_assoc, mul2_comm a b, mul2_assoc]
/-- the last power: what is real falls out -/
def pr (u : E2 n) : E2 n := pow2 (pow2 u (n - 1)) 4
theorem pr_mul (u v : E2 n) : pr (mul2 u v) = mul2 (pr u) (pr v) := by unfold pr; rw [mul2_pow, mul2_pow]
theorem pr_pow (u : E2 n) (k : Nat) : pr (pow2 u k) = pow2 (pr u) k := by
  induction k with
  | zero => show pr ((1, 0) : E2 n) = (1, 0); unfold pr; rw [pow2_one, pow2_one]
  | succ k ih => rw [pow2_succ, pr_mul, ih, pow2_succ]
theorem pr_one : pr ((1, 0) : E2 n) = (1, 0) := by unfold pr; rw [pow2_one, pow2_one]
theorem pr_real (g : Good n s) {c : Fin n} (hc : c ≠ 0) : pr ((c, 0) : E2 n) = (1, 0) := by
  unfold pr; rw [pow2_real, fpow_fermat g.prime hc, pow2_one]
theorem pr_Q2 (g : Good n s) {u v : E2 n} (h : Q2 u v) : pr u = pr v := by
  obtain ⟨c, hc, rfl⟩ := h
  rw [pr_mul, pr_real g hc, one_mul2]
theorem pr_im (g : Good n s) {c : Fin n} (hc : c ≠ 0) : pr ((0, c) : E2 n) = (1, 0) := by
  have e : ((0, c) : E2 n) = mul2 (c, 0) (0, 1) := Prod.ext (by simp only [mul2]; grobner) (by simp only [mul2]; grobner)
  rw [e, pr_mul, pr_real g hc, one_mul2]
  have h4 : pow2 ((0, 1) : E2 n) 4 = (1, 0) := by
    show mul2 (mul2 (mul2 (mul2 (1, 0) (0, 1)) (0, 1)) (0, 1)) (0, 1) = _
    exact Prod.ext (by simp only [mul2]; grobner) (by simp only [mul2]; grobner)
  unfold pr
  rw [← pow2_mul, Nat.mul_comm, pow2_mul, h4, pow2_one]
theorem conj_norm (u : E2 n) : mul2 (conj2 u) u = (u.1 * u.1 + u.2 * u.2, 0) := Prod.ext (by simp only [mul2, conj2]; grobner) (by simp only [mul2, conj2]; grobner)
theorem pr_conj (g : Good n s) {u : E2 n} (hu : u ≠ (0, 0)) : mul2 (pr (conj2 u)) (pr u) = (1, 0) := by
  rw [← pr_mul, conj_norm, pr_real g (norm_ne g.prime g.noI hu)]
/-- R-th powers are killed -/
theorem pr_R (g : Good n s) {r : Nat} (hr : n + 1 = 4 * r) {u : E2 n} (hu : u ≠ (0, 0)) : pow2 (pr u) r = (1, 0) := by
  have h2 := g.prime.1
  obtain ⟨j, hj⟩ : ∃ j, n = 4 * j + 3 := ⟨r - 1, by omega⟩
  unfold pr
  rw [← pow2_mul, ← hr, ← pow2_mul, Nat.mul_comm, pow2_mul]
  rw [pow2_succ, frob g.prime hj, conj_norm, pow2_real, fpow_fermat g.prime (norm_ne g.prime g.noI hu)]
theorem pr_inv (g : Good n s) {u : E2 n} (hu : u ≠ (0, 0)) : ∃ i, mul2 (pr u) i = (1, 0) := ⟨pr (conj2 u), by rw [mul2_comm]; exact pr_conj g hu⟩
theorem cancel_r {u v w i : E2 n} (hi : mul2 w i = (1, 0)) (h : mul2 u w = mul2 v w) : u = v := by
  have := congrArg (fun z => mul2 z i) h
  simp only [mul2_assoc, hi, mul2_one] at this
  exact this
/-- the values of lines, as the last power leaves them -/
def pc (qx qy : Fin n) (A B : EPt n) : E2 n := pr (cv qx qy A B)
theorem pc_none (qx qy : Fin n) (B : EPt n) : pc qx qy none B = (1, 0) := by unfold pc; rw [cv_none, pr_one]
theorem pc_none' (qx qy : Fin n) (B : EPt n) : pc qx qy B none = (1, 0) := by unfold pc; rw [cv_none', pr_one]
theorem pc_comm (g : Good n s) {k : Nat} (qx qy : Fin n) {A B : EPt n} (hA : Od k A) (hB : Od k B) : pc qx qy A B = pc qx qy B A := by
  unfold pc; rw [cv_comm g qx qy hA.1 hB.1 (hA.y g) (hB.y g)]
theorem pcoc (g : Good n s) {k : Nat} {qx qy : Fin n} (hq : qy * qy = qx * qx * qx + qx) (hq0 : qy ≠ 0) {A B C : EPt n} (hA : Od k A) (hB : Od k B) (hC : Od k C) :
    mul2 (pc qx qy A B) (pc qx qy (addE A B) C) = mul2 (pc qx qy B C) (pc qx qy A (addE B C)) := by
  unfold pc; rw [← pr_mul, ← pr_mul, pr_Q2 g (coc g hq hq0 hA hB hC)]
/-- a turn's value -/
def Fm (qx qy : Fin n) (A : EPt n) : Nat → E2 n
  | 0 => (1, 0)
  | j + 1 => mul2 (Fm qx qy A j) (pc qx qy (nsm A j) A)
theorem Fm_succ (qx qy : Fin n) (A : EPt n) (j : Nat) : Fm qx qy A (j + 1) = mul2 (Fm qx qy A j) (pc qx qy (nsm A j) A) := rfl
theorem Fm_add (g : Good n s) {k : Nat} {qx qy : Fin n} (hq : qy * qy = qx * qx * qx + qx) (hq0 : qy ≠ 0) {A : EPt n} (hA : Od k A) (m : Nat) : ∀ j,
    Fm qx qy A (m + j) = mul2 (mul2 (Fm qx qy A m) (Fm qx qy A j)) (pc qx qy (nsm A m) (nsm A j))
  | 0 => by
    show Fm qx qy A m = mul2 (mul2 (Fm qx qy A m) (1, 0)) (pc qx qy (nsm A m) none)
    rw [pc_none', mul2_one, mul2_one]
  | j + 1 => by
    have h := pcoc g hq hq0 (hA.times g m) (hA.times g j) hA
    rw [← Nat.add_assoc, Fm_succ, Fm_add g hq hq0 hA m j, Fm_succ, nsm_add g hA.1, nsm_succ, mul2_assoc, h]
    simp only [mul2_comm, mul2_left, mul2_assoc]
theorem exch (g : Good n s) {k : Nat} {qx qy : Fin n} (hq : qy * qy = qx * qx * qx + qx) (hq0 : qy ≠ 0) {U V A B : EPt n} (hU : Od k U) (hV : Od k V) (hA : Od k A) (hB : Od k B) :
    mul2 (mul2 (pc qx qy U V) (pc qx qy (addE U V) (addE A B))) (pc qx qy A B) = mul2 (mul2 (pc qx qy U A) (pc qx qy V B)) (pc qx qy (addE U A) (addE V B)) := by
  have h1 := pcoc g hq hq0 hU hV (hA.add g hB)
  have h2 := pcoc g hq hq0 hV hA hB
  have h3 := pcoc g hq hq0 hU (hV.add g hA) hB
  have h4 := pcoc g hq hq0 hU hA hV
  have h5 := pcoc g hq hq0 (hU.add g hA) hV hB
  rw [addE_assoc g hV.1 hA.1 hB.1] at h3
  rw [pc_comm g qx qy hA hV, addE_comm g hA.1 hV.1] at h4
  rw [addE_assoc g hU.1 hA.1 hV.1, addE_comm g hA.1 hV.1] at h5
  generalize pc qx qy (addE U (addE V A)) B = x1 at *
  generalize pc qx qy U (addE V (addE A B)) = x2 at *
  rw [h1, mul2_assoc, mul2_comm x2, ← mul2_assoc, mul2_comm _ (pc qx qy A B), ← h2, mul2_assoc, ← h3, ← mul2_assoc, ← h4, mul2_assoc, h5, ← mul2_assoc]
theorem Fm_lin (g : Good n s) {k : Nat} {qx qy : Fin n} (hq : qy * qy = qx * qx * qx + qx) (hq0 : qy ≠ 0) {A B : EPt n} (hA : Od k A) (hB : Od k B) : ∀ j,
    mul2 (Fm qx qy (addE A B) j) (pow2 (pc qx qy A B) j) = mul2 (mul2 (Fm qx qy A j) (Fm qx qy B j)) (pc qx qy (nsm A j) (nsm B j))
  | 0 => by
    show mul2 (1, 0) (1, 0) = mul2 (mul2 (1, 0) (1, 0)) (pc qx qy none none)
    rw [pc_none, mul2_one, mul2_one]
  | j + 1 => by
    have h := Fm_lin g hq hq0 hA hB j
    have e := exch g hq hq0 (hA.times g j) (hB.times g j) hA hB
    rw [Fm_succ, pow2_succ, nsm_addE g hA.1 hB.1, mul2_swap, h, mul2_assoc, ← mul2_assoc (pc qx qy (nsm A j) (nsm B j)), e, Fm_succ, Fm_succ, nsm_succ, nsm_succ]
    simp only [mul2_comm, mul2_left, mul2_assoc]
theorem Fm_none (qx qy : Fin n) : ∀ j, Fm qx qy (none : EPt n) j = (1, 0)
  | 0 => rfl
  | j + 1 => by rw [Fm_succ, Fm_none qx qy j, pc_none', mul2_one]
theorem Fm_sum (g : Good n s) {k : Nat} (hr : n + 1 = 4 * (2 * k + 1)) {qx qy : Fin n} (hq : qy * qy = qx * qx * qx + qx) (hq0 : qy ≠ 0) {A B : EPt n} (hA : Od k A) (hB : Od k B) :
    Fm qx qy (addE A B) (2 * k + 1) = mul2 (Fm qx qy A (2 * k + 1)) (Fm qx qy B (2 * k + 1)) := by
  have h := Fm_lin g hq hq0 hA hB (2 * k + 1)
  rw [hA.2, hB.2, pc_none, mul2_one] at h
  unfold pc at h
  rw [pr_R g hr (cv_ne qx qy g hq0 A B), mul2_one] at h
  exact h
theorem Fm_nsm (g : Good n s) {k : Nat} (hr : n + 1 = 4 * (2 * k + 1)) {qx qy : Fin n} (hq : qy * qy = qx * qx * qx + qx) (hq0 : qy ≠ 0) {A : EPt n} (hA : Od k A) : ∀ j,
    Fm qx qy (nsm A j) (2 * k + 1) = pow2 (Fm qx qy A (2 * k + 1)) j
  | 0 => Fm_none qx qy _
  | j + 1 => by rw [nsm_succ, Fm_sum g hr hq hq0 (hA.times g j) hA, Fm_nsm g hr hq hq0 hA j, pow2_succ]
/-! ### the other side: two lines, each at the other's points -/
/-- three values of one line multiplied -/
def tri (l κ m μ e1 e2 e3 : Fin n) : E2 n :=
  ((l * l * l - 3 * l * (κ * κ)) * e3 + (-((l * l - κ * κ) * m) - 2 * l * κ * μ) * e2 + (l * (m * m - μ * μ) + 2 * κ * m * μ) * e1 + (3 * m * (μ * μ) - m * m * m),
   (3 * (l * l) * κ - κ * κ * κ) * e3 + ((l * l - κ * κ) * μ - 2 * l * κ * m) * e2 + (κ * (m * m - μ * μ) - 2 * l * m * μ) * e1 + (3 * (m * m) * μ - μ * μ * μ))
theorem tri_eq (l κ m μ x y z : Fin n) : mul2 (mul2 ((l * x - m, κ * x + μ) : E2 n) (l * y - m, κ * y + μ)) (l * z - m, κ * z + μ) = tri l κ m μ (x + y + z) (x * y + x * z + y * z) (x * y * z) :=
  Prod.ext (by simp only [mul2, tri]; grobner) (by simp only [mul2, tri]; grobner)
theorem tri_swap (l κ m μ : Fin n) : tri κ l μ m (l * l) (1 - 2 * l * m) (m * m) = ((tri l κ m μ (κ * κ) (1 - 2 * κ * μ) (μ * μ)).2, (tri l κ m μ (κ * κ) (1 - 2 * κ * μ) (μ * μ)).1) :=
  Prod.ext (by simp only [tri]; grobner) (by simp only [tri]; grobner)
theorem recip {a a2 b b2 d d2 l m x x2 y y2 z z2 κ μ : Fin n} (L : Ln a a2 b b2 d d2 l m) (M : Ln x x2 y y2 z z2 κ μ) :
    ∃ w : E2 n, mul2 (mul2 ((l * x - m, x2) : E2 n) (l * y - m, y2)) (conj2 (l * z - m, z2)) = w ∧ mul2 (mul2 ((κ * a - μ, a2) : E2 n) (κ * b - μ, b2)) (conj2 (κ * d - μ, d2)) = (w.2, w.1) := by
  obtain ⟨pa, pb, pd, c1, c2, c3⟩ := L
  obtain ⟨qa, qb, qd, e1, e2, e3⟩ := M
  refine ⟨tri l κ m μ (κ * κ) (1 - 2 * κ * μ) (μ * μ), ?_, ?_⟩
  · rw [← e1, ← e2, ← e3, ← tri_eq, qa, qb, qd]
    unfold conj2
    rw [show -(-(κ * z + μ)) = κ * z + μ by clear pa pb pd c1 c2 c3 qa qb qd e1 e2 e3; grobner]
  · rw [← tri_swap, ← c1, ← c2, ← c3, ← tri_eq, pa, pb, pd]
    unfold conj2
    rw [show -(-(l * d + m)) = l * d + m by clear pa pb pd c1 c2 c3 qa qb qd e1 e2 e3; grobner]
theorem cv_at (g : Good n s) {a a2 b b2 d d2 l m : Fin n} (h : Ln a a2 b b2 d d2 l m) (ya : a2 ≠ 0) (x y : Fin n) : cv x y (some (a, a2)) (some (b, b2)) = (l * x - m, y) := by
  rw [cv_ln g x y h ya]
  exact Prod.ext (by show -(l * -x + m) = l * x - m; grobner) rfl
/-- a value at a point; none where there is none -/
def pa (Q : EPt n) (A B : EPt n) : E2 n := match Q with | none => (1, 0) | some (x, y) => pc x y A B
theorem pr_two (g : Good n s) {w : E2 n} (h : w ≠ (0, 0)) : mul2 (pr w) (pr ((w.2, w.1) : E2 n)) = (1, 0) := by
  rw [← pr_mul]
  have hN := norm_ne g.prime g.noI h
  have e : mul2 w ((w.2, w.1) : E2 n) = (0, w.1 * w.1 + w.2 * w.2) := Prod.ext (by simp only [mul2]; grobner) rfl
  rw [e, pr_im g hN]
theorem conj2_ne {u : E2 n} (h : u ≠ (0, 0)) : conj2 u ≠ (0, 0) := by
  intro e
  have e1 : u.1 = 0 := congrArg Prod.fst e
  have e2 : -u.2 = 0 := congrArg Prod.snd e
  exact h (Prod.ext e1 (by show u.2 = 0; clear e e1; grobner))
theorem snd_ne {x y : Fin n} (h : y ≠ 0) : ((x, y) : E2 n) ≠ (0, 0) := fun e => h (congrArg Prod.snd e)
/-- each line's values at the other's points -/
theorem weil (g : Good n s) {k : Nat} {A B Q T : EPt n} (hA : Od k A) (hB : Od k B) (hQ : Od k Q) (hT : Od k T) (a0 : A ≠ none) (b0 : B ≠ none) (q0 : Q ≠ none) (t0 : T ≠ none) (ab : addE A B ≠ none) (qt : addE Q T ≠ none) :
    mul2 (mul2 (pa Q A B) (pa T A B)) (mul2 (pa A Q T) (pa B Q T)) = mul2 (pa (addE Q T) A B) (pa (addE A B) Q T) := by
  have hAB := hA.add g hB
  have hQT := hQ.add g hT
  match A, B, Q, T, a0, b0, q0, t0 with
  | some (a, a2), some (b, b2), some (x, x2), some (y, y2), _, _, _, _ =>
    have h1 : ¬ (a = b ∧ a2 + b2 = 0) := fun h => ab (add_vert h)
    have h2 : ¬ (x = y ∧ x2 + y2 = 0) := fun h => qt (add_vert h)
    obtain ⟨d, d2, l, m, hd, L⟩ := add_ln g hA.1 hB.1 h1
    obtain ⟨z, z2, κ, μ, hz, M⟩ := add_ln g hQ.1 hT.1 h2
    have ya := hA.y' g
    have yb := hB.y' g
    have yx := hQ.y' g
    have yy := hT.y' g
    rw [hd] at hAB ⊢
    rw [hz] at hQT ⊢
    have yd := hAB.y' g
    have yz := hQT.y' g
    obtain ⟨w, e1, e2⟩ := recip L M
    have w0 : w ≠ (0, 0) := by
      rw [← e1]
      exact mul2_ne g (mul2_ne g (snd_ne yx) (snd_ne yy)) (conj2_ne (snd_ne yz))
    have e := pr_two g w0
    rw [← e2, ← e1, pr_mul, pr_mul, pr_mul, pr_mul] at e
    show mul2 (mul2 (pr (cv x x2 (some (a, a2)) (some (b, b2)))) (pr (cv y y2 (some (a, a2)) (some (b, b2))))) (mul2 (pr (cv a a2 (some (x, x2)) (some (y, y2)))) (pr (cv b b2 (some (x, x2)) (some (y, y2))))) = mul2 (pr (cv z z2 (some (a, a2)) (some (b, b2)))) (pr (cv d d2 (some (x, x2)) (some (y, y2))))
    rw [cv_at g L ya, cv_at g L ya, cv_at g L ya, cv_at g M yx, cv_at g M yx, cv_at g M yx]
    have f1 := pr_conj g (snd_ne (x := l * z - m) yz)
    have f2 := pr_conj g (snd_ne (x := κ * d - μ) yd)
    generalize pr ((l * x - m, x2) : E2 n) = u1 at *
    generalize pr ((l * y - m, y2) : E2 n) = u2 at *
    generalize pr ((l * z - m, z2) : E2 n) = u3 at *
    generalize pr (conj2 ((l * z - m, z2) : E2 n)) = v3 at *
    generalize pr ((κ * a - μ, a2) : E2 n) = r1 at *
    generalize pr ((κ * b - μ, b2) : E2 n) = r2 at *
    generalize pr ((κ * d - μ, d2) : E2 n) = r3 at *
    generalize pr (conj2 ((κ * d - μ, d2) : E2 n)) = t3 at *
    have g1 : mul2 (mul2 u3 r3) (mul2 v3 t3) = (1, 0) := by
      rw [mul2_swap, mul2_comm u3, f1, one_mul2, mul2_comm r3, f2]
    refine cancel_r (w := mul2 v3 t3) (i := mul2 u3 r3) (by rw [mul2_comm]; exact g1) ?_
    rw [g1, ← e]
    simp only [mul2_comm, mul2_left]
/-- a turn's value at a point; none where there is none -/
def Fa (Q A : EPt n) (j : Nat) : E2 n := match Q with | none => (1, 0) | some (x, y) => Fm x y A j
theorem Fa_zero (Q A : EPt n) : Fa Q A 0 = (1, 0) := by
  match Q with
  | none => rfl
  | some (x, y) => rfl
theorem Fa_succ (Q A : EPt n) (j : Nat) : Fa Q A (j + 1) = mul2 (Fa Q A j) (pa Q (nsm A j) A) := by
  match Q with
  | none => exact (mul2_one _).symm
  | some (x, y) => rfl
theorem Fa_none (Q : EPt n) (j : Nat) : Fa Q none j = (1, 0) := by
  match Q with
  | none => rfl
  | some (x, y) => exact Fm_none x y j
theorem pa_none (Q A : EPt n) : pa Q none A = (1, 0) := by
  match Q with
  | none => rfl
  | some (x, y) => exact pc_none x y A
theorem pa_vert (Q : EPt n) {A B : EPt n} (h : addE A B = none) : pa Q A B = (1, 0) := by
  match Q with
  | none => rfl
  | some (x, y) =>
    show pr (cv x y A B) = (1, 0)
    match A, B with
    | none, B => rw [cv_none, pr_one]
    | some A, none => rw [cv_none', pr_one]
    | some (a, a2), some (b, b2) => rw [cv_vert x y (vert_add h), pr_one]
theorem cv_flip (x y : Fin n) (A B : EPt n) : cv x (-y) A B = conj2 (cv x y A B) := by
  have h1 : ((1, 0) : E2 n) = conj2 (1, 0) := Prod.ext rfl (by show (0 : Fin n) = -0; grobner)
  match A, B with
  | none, B => rw [cv_none, cv_none]; exact h1
  | some A, none => rw [cv_none', cv_none']; exact h1
  | some (a, a2), some (b, b2) =>
    show (if a = b ∧ a2 + b2 = 0 then (1, 0) else (lamQ a a2 b b2 * (x + a) - a2, -y)) = conj2 (if a = b ∧ a2 + b2 = 0 then (1, 0) else (lamQ a a2 b b2 * (x + a) - a2, y))
    split
    · exact h1
    · rfl
/-- at the opposite point: the inverse -/
theorem pa_opp (g : Good n s) {k : Nat} {Q T : EPt n} (hQ : Od k Q) (h : addE Q T = none) (A B : EPt n) : mul2 (pa Q A B) (pa T A B) = (1, 0) := by
  match Q, T, hQ, h with
  | none, none, _, _ => exact mul2_one _
  | none, some t, _, h => cases h
  | some q, none, _, h => cases h
  | some (x, y), some (x', y'), hQ, h =>
    obtain ⟨rfl, h2⟩ := vert_add h
    obtain rfl : y' = -y := by clear h hQ; grobner
    show mul2 (pr (cv x y A B)) (pr (cv x (-y) A B)) = (1, 0)
    rw [cv_flip, mul2_comm]
    exact pr_conj g (cv_ne x y g (hQ.y' g) A B)
theorem Fa_opp (g : Good n s) {k : Nat} {Q T : EPt n} (hQ : Od k Q) (h : addE Q T = none) (A : EPt n) : ∀ j, mul2 (Fa Q A j) (Fa T A j) = (1, 0)
  | 0 => by rw [Fa_zero, Fa_zero, mul2_one]
  | j + 1 => by rw [Fa_succ, Fa_succ, mul2_swap, Fa_opp g hQ h A j, pa_opp g hQ h, mul2_one]
theorem Fa_tele (g : Good n s) {k : Nat} {A Q T : EPt n} (hA : Od k A) (hQ : Od k Q) (hT : Od k T) (a0 : A ≠ none) (q0 : Q ≠ none) (t0 : T ≠ none) (qt : addE Q T ≠ none)
    (low : ∀ j, 0 < j → j < 2 * k + 1 → nsm A j ≠ none) : ∀ j, j + 1 < 2 * k + 1 →
    mul2 (mul2 (Fa Q A (j + 1)) (Fa T A (j + 1))) (pow2 (pa A Q T) (j + 1)) = mul2 (Fa (addE Q T) A (j + 1)) (pa (nsm A (j + 1)) Q T)
  | 0, _ => by
    rw [Fa_succ, Fa_succ, Fa_succ, Fa_zero, Fa_zero, Fa_zero, pow2_succ]
    show mul2 (mul2 (mul2 (1, 0) (pa Q none A)) (mul2 (1, 0) (pa T none A))) (mul2 (1, 0) (pa A Q T)) = mul2 (mul2 (1, 0) (pa (addE Q T) none A)) (pa A Q T)
    rw [pa_none, pa_none, pa_none, mul2_one, mul2_one, one_mul2]
  | j + 1, hj => by
    have h := Fa_tele g hA hQ hT a0 q0 t0 qt low j (by omega)
    have hw := weil g (hA.times g (j + 1)) hA hQ hT (low (j + 1) (by omega) (by omega)) a0 q0 t0 (low (j + 1 + 1) (by omega) hj) qt
    have hs : nsm A (j + 1 + 1) = addE (nsm A (j + 1)) A := rfl
    rw [Fa_succ Q, Fa_succ T, Fa_succ (addE Q T), pow2_succ, hs]
    generalize Fa Q A (j + 1) = f1 at *
    generalize Fa T A (j + 1) = f2 at *
    generalize Fa (addE Q T) A (j + 1) = f3 at *
    generalize pow2 (pa A Q T) (j + 1) = p at *
    generalize pa Q (nsm A (j + 1)) A = u1 at *
    generalize pa T (nsm A (j + 1)) A = u2 at *
    generalize pa (addE Q T) (nsm A (j + 1)) A = u3 at *
    generalize pa (nsm A (j + 1)) Q T = r1 at *
    generalize pa A Q T = r2 at *
    generalize pa (addE (nsm A (j + 1)) A) Q T = r3 at *
    have e : mul2 (mul2 (mul2 f1 u1) (mul2 f2 u2)) (mul2 p r2) = mul2 (mul2 (mul2 (mul2 f1 f2) p) (mul2 u1 u2)) r2 := by simp only [mul2_comm, mul2_left]
    rw [e, h, mul2_assoc f3 u3, ← hw]
    simp only [mul2_comm, mul2_left]
theorem Fa_sum (g : Good n s) {k : Nat} (hr : n + 1 = 4 * (2 * k + 1)) (hk : 0 < k) {A Q T : EPt n} (hA : Od k A) (hQ : Od k Q) (hT : Od k T) (low : A ≠ none → ∀ j, 0 < j → j < 2 * k + 1 → nsm A j ≠ none) :
    Fa (addE Q T) A (2 * k + 1) = mul2 (Fa Q A (2 * k + 1)) (Fa T A (2 * k + 1)) := by
  by_cases a0 : A = none
  · rw [a0, Fa_none, Fa_none, Fa_none, mul2_one]
  by_cases q0 : Q = none
  · subst q0
    rw [none_addE]
    exact (one_mul2 _).symm
  by_cases t0 : T = none
  · subst t0
    rw [addE_none]
    exact (mul2_one _).symm
  by_cases qt : addE Q T = none
  · rw [Fa_opp g hQ qt, qt]; rfl
  have hl : addE (nsm A (2 * k)) A = none := hA.2
  obtain ⟨j, hj⟩ : ∃ j, 2 * k = j + 1 := ⟨2 * k - 1, by omega⟩
  have h := Fa_tele g hA hQ hT a0 q0 t0 qt (low a0) j (by omega)
  rw [← hj] at h
  rw [Fa_succ, Fa_succ, Fa_succ, pa_vert _ hl, pa_vert _ hl, pa_vert _ hl, mul2_one, mul2_one, mul2_one]
  have ho := pa_opp g (hA.times g (2 * k)) hl Q T
  have hp : mul2 (pow2 (pa A Q T) (2 * k)) (pa A Q T) = (1, 0) := by
    rw [← pow2_succ]
    match A, hA, a0 with
    | some (x, y), hA, _ => exact pr_R g hr (cv_ne x y g (hA.y' g) Q T)
  have e := congrArg (fun z => mul2 z (pa A Q T)) h
  simp only [mul2_assoc] at e
  rw [ho, hp, mul2_one, mul2_one] at e
  exact e.symm
theorem Fa_nsm (g : Good n s) {k : Nat} (hr : n + 1 = 4 * (2 * k + 1)) (hk : 0 < k) {A Q : EPt n} (hA : Od k A) (hQ : Od k Q) (low : A ≠ none → ∀ j, 0 < j → j < 2 * k + 1 → nsm A j ≠ none) : ∀ j,
    Fa (nsm Q j) A (2 * k + 1) = pow2 (Fa Q A (2 * k + 1)) j
  | 0 => rfl
  | j + 1 => by rw [nsm_succ, Fa_sum g hr hk hA (hQ.times g j) hQ low, Fa_nsm g hr hk hA hQ low j, pow2_succ]
theorem Fa_sumA (g : Good n s) {k : Nat} (hr : n + 1 = 4 * (2 * k + 1)) {A B Q : EPt n} (hA : Od k A) (hB : Od k B) (hQ : Od k Q) : Fa Q (addE A B) (2 * k + 1) = mul2 (Fa Q A (2 * k + 1)) (Fa Q B (2 * k + 1)) := by
  match Q, hQ with
  | none, _ => exact (mul2_one _).symm
  | some (x, y), hQ => exact Fm_sum g hr hQ.1 (hQ.y' g) hA hB
theorem Fa_nsmA (g : Good n s) {k : Nat} (hr : n + 1 = 4 * (2 * k + 1)) {A Q : EPt n} (hA : Od k A) (hQ : Od k Q) (j : Nat) : Fa Q (nsm A j) (2 * k + 1) = pow2 (Fa Q A (2 * k + 1)) j := by
  match Q, hQ with
  | none, _ => exact (pow2_one _).symm
  | some (x, y), hQ => exact Fm_nsm g hr hQ.1 (hQ.y' g) hA j
end
end Obol

