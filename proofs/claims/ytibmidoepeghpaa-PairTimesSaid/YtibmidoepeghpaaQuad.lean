/- The field of P P elements, without any program: powers, and that the P-th power turns i round. -/
import Derived.Test.YtibmidoepeghpaaGrpA
namespace Obol
section
variable {n : Nat} [NeZero n]
abbrev E2 (n : Nat) := Fin n × Fin n
def mul2 (a b : E2 n) : E2 n := (a.1 * b.1 - a.2 * b.2, a.1 * b.2 + a.2 * b.1)
def add2 (a b : E2 n) : E2 n := (a.1 + b.1, a.2 + b.2)
def sc2 (c : Nat) (a : E2 n) : E2 n := (of n c * a.1, of n c * a.2)
def pow2 (a : E2 n) : Nat → E2 n
  | 0 => (1, 0)
  | k + 1 => mul2 (pow2 a k) a
theorem mul2_comm (a b : E2 n) : mul2 a b = mul2 b a := Prod.ext (by simp only [mul2]; grind) (by simp only [mul2]; grind)
theorem mul2_assoc (a b c : E2 n) : mul2 (mul2 a b) c = mul2 a (mul2 b c) := Prod.ext (by simp only [mul2]; grind) (by simp only [mul2]; grind)
theorem mul2_one (a : E2 n) : mul2 a (1, 0) = a := Prod.ext (by simp only [mul2]; grind) (by simp only [mul2]; grind)
theorem one_mul2 (a : E2 n) : mul2 (1, 0) a = a := Prod.ext (by simp only [mul2]; grind) (by simp only [mul2]; grind)
theorem mul2_zero (a : E2 n) : mul2 a (0, 0) = (0, 0) := Prod.ext (by simp only [mul2]; grind) (by simp only [mul2]; grind)
theorem mul2_add (a b c : E2 n) : mul2 a (add2 b c) = add2 (mul2 a b) (mul2 a c) := Prod.ext (by simp only [mul2, add2]; grind) (by simp only [mul2, add2]; grind)
theorem pow2_succ (a : E2 n) (k : Nat) : pow2 a (k + 1) = mul2 (pow2 a k) a := rfl
theorem pow2_add (a : E2 n) (j k : Nat) : pow2 a (j + k) = mul2 (pow2 a j) (pow2 a k) := by
  induction k with
  | zero => exact (mul2_one _).symm
  | succ k ih => rw [← Nat.add_assoc, pow2_succ, pow2_succ, ih, mul2_assoc]
theorem pow2_one (k : Nat) : pow2 ((1, 0) : E2 n) k = (1, 0) := by
  induction k with
  | zero => rfl
  | succ k ih => rw [pow2_succ, ih, mul2_one]
theorem mul2_swap (a b c d : E2 n) : mul2 (mul2 a b) (mul2 c d) = mul2 (mul2 a c) (mul2 b d) := Prod.ext (by simp only [mul2]; grind) (by simp only [mul2]; grind)
theorem mul2_pow (a b : E2 n) (k : Nat) : pow2 (mul2 a b) k = mul2 (pow2 a k) (pow2 b k) := by
  induction k with
  | zero => exact (mul2_one _).symm
  | succ k ih => rw [pow2_succ, pow2_succ, pow2_succ, ih, mul2_swap]
theorem pow2_mul (a : E2 n) (j k : Nat) : pow2 a (j * k) = pow2 (pow2 a j) k := by
  induction k with
  | zero => rfl
  | succ k ih => rw [Nat.mul_succ, pow2_add, ih, pow2_succ]
theorem pow2_real (x : Fin n) (k : Nat) : pow2 ((x, 0) : E2 n) k = (fpow x k, 0) := by
  induction k with
  | zero => rfl
  | succ k ih => rw [pow2_succ, ih, fpow_succ]; exact Prod.ext (by simp only [mul2]; grind) (by simp only [mul2]; grind)

/-! binomials -/
def ch : Nat → Nat → Nat
  | _, 0 => 1
  | 0, _ + 1 => 0
  | m + 1, k + 1 => ch m k + ch m (k + 1)
theorem ch_zero (m : Nat) : ch m 0 = 1 := by cases m <;> rfl
theorem ch_succ (m k : Nat) : ch (m + 1) (k + 1) = ch m k + ch m (k + 1) := rfl
theorem ch_big : ∀ (m k : Nat), m < k → ch m k = 0
  | 0, k + 1, _ => rfl
  | m + 1, k + 1, h => by rw [ch_succ, ch_big m k (by omega), ch_big m (k + 1) (by omega)]
theorem ch_self : ∀ m, ch m m = 1
  | 0 => rfl
  | m + 1 => by rw [ch_succ, ch_self m, ch_big m (m + 1) (by omega)]
theorem ch_mul : ∀ (m k : Nat), (k + 1) * ch (m + 1) (k + 1) = (m + 1) * ch m k
  | 0, 0 => rfl
  | 0, k + 1 => by rw [ch_big 1 (k + 1 + 1) (by omega), ch_big 0 (k + 1) (by omega), Nat.mul_zero, Nat.mul_zero]
  | m + 1, 0 => by
    have h := ch_mul m 0
    rw [ch_zero] at h
    rw [ch_succ (m + 1) 0, ch_zero]
    generalize ch (m + 1) (0 + 1) = A at *
    omega
  | m + 1, k + 1 => by
    have h1 := ch_mul m k
    have h2 := ch_mul m (k + 1)
    rw [ch_succ (m + 1) (k + 1)]
    have e := ch_succ m k
    generalize ch (m + 1) (k + 1) = A at *
    generalize ch (m + 1) (k + 1 + 1) = B at *
    generalize ch m k = C at *
    generalize ch m (k + 1) = D at *
    rw [Nat.mul_add, h2]
    have : (k + 1 + 1) * A = (m + 1) * C + A := by rw [Nat.succ_mul, h1]
    rw [this, Nat.succ_mul (m + 1) A, e, Nat.mul_add]
    omega
theorem ch_prime {p k : Nat} (hp : IsPrime p) (h0 : 0 < k) (h1 : k < p) : p ∣ ch p k := by
  obtain ⟨m, rfl⟩ : ∃ m, p = m + 1 := ⟨p - 1, by omega⟩
  obtain ⟨j, rfl⟩ : ∃ j, k = j + 1 := ⟨k - 1, by omega⟩
  have h := ch_mul m j
  have hd : (m + 1) ∣ (j + 1) * ch (m + 1) (j + 1) := ⟨_, h⟩
  rcases prime_dvd_mul hp hd with h | h
  · have := Nat.le_of_dvd (by omega) h; omega
  · exact h
/-- the sum of the first j terms of (1 + x) to the m -/
def bs (m : Nat) (x : E2 n) : Nat → E2 n
  | 0 => (0, 0)
  | j + 1 => add2 (bs m x j) (sc2 (ch m j) (pow2 x j))
theorem of_nat_add (a b : Nat) : of n ((a + b : Nat) : Int) = of n a + of n b := by rw [Int.natCast_add, of_add]
theorem bs_next (m : Nat) (x : E2 n) : ∀ j, bs (m + 1) x (j + 1) = add2 (bs m x (j + 1)) (mul2 x (bs m x j))
  | 0 => by
    show add2 (0, 0) (sc2 (ch (m + 1) 0) (1, 0)) = add2 (add2 (0, 0) (sc2 (ch m 0) (1, 0))) (mul2 x (0, 0))
    rw [ch_zero, ch_zero, mul2_zero]
    exact Prod.ext (by simp only [add2]; grind) (by simp only [add2]; grind)
  | j + 1 => by
    show add2 (bs (m + 1) x (j + 1)) (sc2 (ch (m + 1) (j + 1)) (pow2 x (j + 1))) = add2 (add2 (bs m x (j + 1)) (sc2 (ch m (j + 1)) (pow2 x (j + 1)))) (mul2 x (add2 (bs m x j) (sc2 (ch m j) (pow2 x j))))
    rw [bs_next m x j, ch_succ, pow2_succ]
    unfold sc2
    rw [of_nat_add]
    generalize of n (ch m j) = c at *
    generalize of n (ch m (j + 1)) = d at *
    exact Prod.ext (by simp only [add2, mul2]; grind) (by simp only [add2, mul2]; grind)
theorem sc2_zero (a : E2 n) : sc2 0 a = (0, 0) := by
  unfold sc2
  have := of_zero (n := n)
  rw [show ((0 : Nat) : Int) = 0 from rfl, this]
  exact Prod.ext (by grind) (by grind)
theorem add2_zero (a : E2 n) : add2 a (0, 0) = a := Prod.ext (by simp only [add2]; grind) (by simp only [add2]; grind)
theorem bin (x : E2 n) : ∀ m, pow2 (add2 (1, 0) x) m = bs m x (m + 1)
  | 0 => by
    show (1, 0) = add2 (0, 0) (sc2 1 (1, 0))
    unfold sc2
    rw [show ((1 : Nat) : Int) = 1 from rfl, of_one]
    exact Prod.ext (by simp only [add2]; grind) (by simp only [add2]; grind)
  | m + 1 => by
    rw [pow2_succ, bin x m, bs_next]
    show _ = add2 (add2 (bs m x (m + 1)) (sc2 (ch m (m + 1)) (pow2 x (m + 1)))) _
    rw [ch_big m (m + 1) (by omega), sc2_zero, add2_zero]
    exact Prod.ext (by simp only [add2, mul2]; grind) (by simp only [add2, mul2]; grind)
theorem of_dvd {c : Nat} (h : n ∣ c) : of n (c : Int) = 0 := by
  obtain ⟨d, rfl⟩ := h
  rw [← of_zero, of_eq, Int.natCast_mul, Int.mul_emod_right]; rfl
theorem sc2_dvd {c : Nat} (h : n ∣ c) (a : E2 n) : sc2 c a = (0, 0) := by
  unfold sc2
  rw [of_dvd h]
  exact Prod.ext (by grind) (by grind)
theorem bs_prime (hp : IsPrime n) (x : E2 n) : ∀ j, j < n → bs n x (j + 1) = (1, 0)
  | 0, _ => by
    show add2 (0, 0) (sc2 (ch n 0) (1, 0)) = (1, 0)
    rw [ch_zero]
    unfold sc2
    rw [show ((1 : Nat) : Int) = 1 from rfl, of_one]
    exact Prod.ext (by simp only [add2]; grind) (by simp only [add2]; grind)
  | j + 1, h => by
    show add2 (bs n x (j + 1)) (sc2 (ch n (j + 1)) (pow2 x (j + 1))) = _
    rw [bs_prime hp x j (by omega), sc2_dvd (ch_prime hp (by omega) h), add2_zero]
theorem one_add_pow (hp : IsPrime n) (x : E2 n) : pow2 (add2 (1, 0) x) n = add2 (1, 0) (pow2 x n) := by
  rw [bin]
  show add2 (bs n x n) (sc2 (ch n n) (pow2 x n)) = _
  obtain ⟨m, hm⟩ : ∃ m, n = m + 1 := ⟨n - 1, by have := hp.1; omega⟩
  have : bs n x n = (1, 0) := by
    have := bs_prime hp x m (by omega)
    rw [← hm] at this; exact this
  rw [this, ch_self]
  unfold sc2
  rw [show ((1 : Nat) : Int) = 1 from rfl, of_one]
  exact Prod.ext (by simp only [add2]; grind) (by simp only [add2]; grind)
theorem fpow_n (hp : IsPrime n) (x : Fin n) : fpow x n = x := by
  have h2 := hp.1
  by_cases h : x = 0
  · obtain ⟨m, hm⟩ : ∃ m, n = m + 1 := ⟨n - 1, by omega⟩
    rw [h]
    have : ∀ k, fpow (0 : Fin n) (k + 1) = 0 := fun k => by rw [fpow_succ]; grind
    have := this m
    rw [← hm] at this; exact this
  · have := fpow_fermat hp h
    have e : fpow x (n - 1 + 1) = fpow x (n - 1) * x := fpow_succ _ _
    rw [show n - 1 + 1 = n by omega, this] at e
    rw [e]; grind
theorem i_pow {j : Nat} (hj : n = 4 * j + 3) : pow2 ((0, 1) : E2 n) n = (0, -1) := by
  have h4 : pow2 ((0, 1) : E2 n) 4 = (1, 0) := by
    show mul2 (mul2 (mul2 (mul2 (1, 0) (0, 1)) (0, 1)) (0, 1)) (0, 1) = _
    exact Prod.ext (by simp only [mul2]; grind) (by simp only [mul2]; grind)
  have h : pow2 ((0, 1) : E2 n) (4 * j + 3) = (0, -1) := by
    rw [pow2_add, pow2_mul, h4, pow2_one, one_mul2]
    show mul2 (mul2 (mul2 (1, 0) (0, 1)) (0, 1)) (0, 1) = _
    exact Prod.ext (by simp only [mul2]; grind) (by simp only [mul2]; grind)
  rw [← hj] at h; exact h
def conj2 (a : E2 n) : E2 n := (a.1, -a.2)
theorem frob_im (hp : IsPrime n) {j : Nat} (hj : n = 4 * j + 3) (y : Fin n) : pow2 ((0, y) : E2 n) n = (0, -y) := by
  rw [show ((0, y) : E2 n) = mul2 (y, 0) (0, 1) from Prod.ext (by simp only [mul2]; grind) (by simp only [mul2]; grind), mul2_pow, pow2_real, i_pow hj, fpow_n hp]
  exact Prod.ext (by simp only [mul2]; grind) (by simp only [mul2]; grind)
theorem frob (hp : IsPrime n) {j : Nat} (hj : n = 4 * j + 3) (a : E2 n) : pow2 a n = conj2 a := by
  obtain ⟨x, y⟩ := a
  by_cases hx : x = 0
  · subst hx; exact frob_im hp hj y
  · obtain ⟨z, hz⟩ := fin_inv hp hx
    rw [show ((x, y) : E2 n) = mul2 (x, 0) (add2 (1, 0) (0, z * y)) from Prod.ext (by simp only [mul2, add2]; grind) (by simp only [mul2, add2]; grind),
      mul2_pow, one_add_pow hp, pow2_real, frob_im hp hj, fpow_n hp]
    exact Prod.ext (by simp only [mul2, add2, conj2]; grind) (by simp only [mul2, add2, conj2]; grind)
/-- a sum of two squares is 0 only if both are -/
theorem norm_ne (hp : IsPrime n) (hI : ∀ x : Fin n, x * x + 1 ≠ 0) {a : E2 n} (h : a ≠ (0, 0)) : a.1 * a.1 + a.2 * a.2 ≠ 0 := by
  obtain ⟨x, y⟩ := a
  intro e
  have e : x * x + y * y = 0 := e
  by_cases hy : y = 0
  · subst hy
    have : x * x = 0 := by grind
    rcases fin_mul_eq_zero hp this with h1 | h1 <;> exact h (by rw [h1])
  · obtain ⟨z, hz⟩ := fin_inv hp hy
    exact hI (x * z) (by grind)
/-- the power by which pairings are made one: what is real falls out -/
theorem pow_less (hp : IsPrime n) {j : Nat} (hj : n = 4 * j + 3) {a v : E2 n} (hv : mul2 a v = (1, 0)) : pow2 a (n - 1) = mul2 (conj2 a) v := by
  have h2 := hp.1
  have e : pow2 a (n - 1 + 1) = mul2 (pow2 a (n - 1)) a := pow2_succ _ _
  rw [show n - 1 + 1 = n by omega, frob hp hj] at e
  rw [e, mul2_assoc, hv, mul2_one]
theorem pow_real (hp : IsPrime n) {c : Fin n} (hc : c ≠ 0) (a : E2 n) : pow2 (mul2 (c, 0) a) (n - 1) = pow2 a (n - 1) := by
  rw [mul2_pow, pow2_real, fpow_fermat hp hc, one_mul2]
theorem pow_zero2 (hp : IsPrime n) : pow2 ((0, 0) : E2 n) (n - 1) = (0, 0) := by
  have h2 := hp.1
  obtain ⟨m, hm⟩ : ∃ m, n - 1 = m + 1 := ⟨n - 2, by omega⟩
  rw [hm, pow2_succ, mul2_zero]
end
end Obol

