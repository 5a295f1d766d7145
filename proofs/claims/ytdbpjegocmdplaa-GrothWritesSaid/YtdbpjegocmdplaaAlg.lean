import Derived.Test.YtdbpjegocmdplaaFld
namespace Obol

/-! ### whole numbers as elements of Fin n -/
section
variable {n : Nat} [NeZero n]

theorem pos_of_neZero (n : Nat) [NeZero n] : 0 < n := Nat.pos_of_ne_zero (NeZero.ne n)

def of (n : Nat) [NeZero n] (a : Int) : Fin n := ⟨(a % n).toNat, by
  have h := pos_of_neZero n
  have h1 := Int.emod_nonneg a (b := (n : Int)) (by omega)
  have h2 := Int.emod_lt_of_pos a (b := (n : Int)) (by omega)
  omega⟩

theorem of_val (a : Int) : (((of n a).val : Nat) : Int) = a % n := by
  have h := pos_of_neZero n
  have h1 := Int.emod_nonneg a (b := (n : Int)) (by omega)
  show (((a % n).toNat : Nat) : Int) = a % n
  omega

theorem of_eq {a b : Int} : of n a = of n b ↔ a % n = b % n := by
  constructor
  · intro h
    rw [← of_val, ← of_val, h]
  · intro h
    apply Fin.ext
    have := of_val (n := n) a
    have := of_val (n := n) b
    omega

theorem of_emod (a : Int) : of n (a % n) = of n a := of_eq.2 (Int.emod_emod_of_dvd _ (Int.dvd_refl _))

omit [NeZero n] in
theorem fin_eq {x y : Fin n} (h : (x.val : Int) = (y.val : Int)) : x = y := Fin.ext (by omega)

theorem of_add (a b : Int) : of n (a + b) = of n a + of n b := by
  apply fin_eq
  rw [of_val, Fin.val_add, Int.natCast_emod, Int.natCast_add, of_val, of_val, ← Int.add_emod]

theorem of_mul (a b : Int) : of n (a * b) = of n a * of n b := by
  apply fin_eq
  rw [of_val, Fin.val_mul, Int.natCast_emod, Int.natCast_mul, of_val, of_val, ← Int.mul_emod]

theorem of_zero : of n 0 = 0 := by
  apply fin_eq
  rw [of_val]
  simp

theorem of_one : of n 1 = 1 := by
  apply fin_eq
  rw [of_val]
  show (1 : Int) % n = ((1 % n : Nat) : Int)
  simp

theorem of_sub (a b : Int) : of n (a - b) = of n a - of n b := by
  have h : of n (a - b) + of n b = of n a := by rw [← of_add]; congr 1; omega
  rw [← h]; grind

theorem of_neg (a : Int) : of n (-a) = - of n a := by
  have h : of n (-a) + of n a = 0 := by rw [← of_add, ← of_zero (n := n)]; congr 1; omega
  grind

theorem of_two : of n 2 = 2 := by have := of_add (n := n) 1 1; rw [of_one] at this; rw [show (2 : Int) = 1 + 1 from rfl, this]; grind
theorem of_three : of n 3 = 3 := by have := of_add (n := n) 2 1; rw [of_one, of_two] at this; rw [show (3 : Int) = 2 + 1 from rfl, this]; grind
theorem of_four : of n 4 = 4 := by have := of_add (n := n) 2 2; rw [of_two] at this; rw [show (4 : Int) = 2 + 2 from rfl, this]; grind
theorem of_eight : of n 8 = 8 := by have := of_add (n := n) 4 4; rw [of_four] at this; rw [show (8 : Int) = 4 + 4 from rfl, this]; grind

theorem emod_of {a b : Int} (h : of n a = of n b) : a % (n : Int) = b % (n : Int) := of_eq.1 h

theorem of_canon {a : Int} (h0 : 0 ≤ a) (h1 : a < n) : ((of n a).val : Int) = a := by rw [of_val, Int.emod_eq_of_lt h0 h1]

theorem of_val_self (x : Fin n) : of n (x.val : Int) = x := by
  apply fin_eq
  rw [of_val, Int.emod_eq_of_lt (by omega) (by have := x.isLt; omega)]

theorem of_inj {a b : Int} (h0 : 0 ≤ a) (h1 : a < n) (h2 : 0 ≤ b) (h3 : b < n) (h : of n a = of n b) : a = b := by
  have := of_eq.1 h
  rw [Int.emod_eq_of_lt h0 h1, Int.emod_eq_of_lt h2 h3] at this; exact this

/-! ### a prime's field -/

theorem fin_mul_eq_zero (hp : IsPrime n) {x y : Fin n} (h : x * y = 0) : x = 0 ∨ y = 0 := by
  have h1 : x.val * y.val % n = 0 := by
    have := congrArg Fin.val h
    rw [Fin.val_mul] at this
    simpa using this
  rcases prime_dvd_mul hp (Nat.dvd_of_mod_eq_zero h1) with h2 | h2
  · left; apply Fin.ext; have := Nat.eq_zero_of_dvd_of_lt h2 x.isLt; simpa using this
  · right; apply Fin.ext; have := Nat.eq_zero_of_dvd_of_lt h2 y.isLt; simpa using this

theorem fin_mul_ne_zero (hp : IsPrime n) {x y : Fin n} (hx : x ≠ 0) (hy : y ≠ 0) : x * y ≠ 0 := fun h => by
  rcases fin_mul_eq_zero hp h with h | h
  · exact hx h
  · exact hy h

theorem fin_cancel (hp : IsPrime n) {a x y : Fin n} (ha : a ≠ 0) (h : a * x = a * y) : x = y := by
  have : a * (x - y) = 0 := by grind
  rcases fin_mul_eq_zero hp this with h | h
  · exact absurd h ha
  · grind

theorem fin_inv (hp : IsPrime n) {x : Fin n} (hx : x ≠ 0) : ∃ y : Fin n, x * y = 1 := by
  refine ⟨of n ((x.val ^ (n - 2) : Nat) : Int), ?_⟩
  have h2 := hp.1
  apply Fin.ext
  have hv : (of n ((x.val ^ (n - 2) : Nat) : Int)).val = x.val ^ (n - 2) % n := by
    have := of_val (n := n) ((x.val ^ (n - 2) : Nat) : Int)
    exact_mod_cast this
  rw [Fin.val_mul, hv]
  have hx' : ¬ n ∣ x.val := fun hd => hx (Fin.ext (by have := Nat.eq_zero_of_dvd_of_lt hd x.isLt; simpa using this))
  have hf := fermat hp hx'
  show _ = 1 % n
  rw [Nat.mod_eq_of_lt (show 1 < n by omega), ← hf, Nat.mul_mod, Nat.mod_mod, ← Nat.mul_mod, Nat.mul_comm, ← Nat.pow_succ]
  congr 2; omega

end
end Obol
namespace Obol

/-! ### sums on the curve y y = x x x + x, over Fin n -/
section
variable {n : Nat} [NeZero n]

theorem fin_mul_assoc (x y z : Fin n) : x * y * z = x * (y * z) := by grind
theorem add_neg_eq (x y : Fin n) : x + -y = x - y := by grind
theorem add_self_two (x : Fin n) : 2 * x = x + x := by grind

/-- of two points with one X: their Ys are the same, or opposite -/
theorem y_cases (hp : IsPrime n) {x y z : Fin n} (h1 : y * y = x * x * x + x) (h2 : z * z = x * x * x + x) : y = z ∨ y + z = 0 := by
  have : (y - z) * (y + z) = 0 := by grind
  rcases fin_mul_eq_zero hp this with h | h
  · left; grind
  · right; exact h

/-- the sum of two that have two Xs lies on the curve -/
theorem chord_on (X Y x y l i : Fin n) (h1 : Y * Y = X * X * X + X) (h2 : y * y = x * x * x + x) (hi : i * (x - X) = 1) (hl : l = (y - Y) * i) :
    (l * (X - (l * l - X - x)) - Y) * (l * (X - (l * l - X - x)) - Y) = (l * l - X - x) * (l * l - X - x) * (l * l - X - x) + (l * l - X - x) := by
  have : l * (x - X) = y - Y := by grind
  clear hl
  grind

theorem tangent_on (X Y l i : Fin n) (h1 : Y * Y = X * X * X + X) (hi : i * (Y + Y) = 1) (hl : l = (3 * (X * X) + 1) * i) :
    (l * (X - (l * l - X - X)) - Y) * (l * (X - (l * l - X - X)) - Y) = (l * l - X - X) * (l * l - X - X) * (l * l - X - X) + (l * l - X - X) := by
  have : l * (Y + Y) = 3 * (X * X) + 1 := by grind
  clear hl
  grind

/-! scaled points: x, y, z stand for x / (z z), y / (z z z) -/

theorem twice_x (X Y z l i : Fin n) (hi : i * (Y + Y) = 1) (hl : l = (3 * (X * X) + 1) * i) :
    (3 * (X * (z * z) * (X * (z * z))) + z * z * (z * z)) * (3 * (X * (z * z) * (X * (z * z))) + z * z * (z * z)) - (4 * (X * (z * z) * (Y * (z * z * z) * (Y * (z * z * z)))) + 4 * (X * (z * z) * (Y * (z * z * z) * (Y * (z * z * z)))))
      = (l * l - X - X) * (2 * (Y * (z * z * z) * z) * (2 * (Y * (z * z * z) * z))) := by
  have : l * (Y + Y) = 3 * (X * X) + 1 := by grind
  clear hl
  grind

theorem twice_y (X Y z l i x' : Fin n) (hi : i * (Y + Y) = 1) (hl : l = (3 * (X * X) + 1) * i) (hx : x' = (l * l - X - X) * (2 * (Y * (z * z * z) * z) * (2 * (Y * (z * z * z) * z)))) :
    (3 * (X * (z * z) * (X * (z * z))) + z * z * (z * z)) * (4 * (X * (z * z) * (Y * (z * z * z) * (Y * (z * z * z)))) - x') - 8 * (Y * (z * z * z) * (Y * (z * z * z)) * (Y * (z * z * z) * (Y * (z * z * z))))
      = (l * (X - (l * l - X - X)) - Y) * (2 * (Y * (z * z * z) * z) * (2 * (Y * (z * z * z) * z)) * (2 * (Y * (z * z * z) * z))) := by
  have : l * (Y + Y) = 3 * (X * X) + 1 := by grind
  subst hx
  clear hl
  grind

theorem more_x (X Y z l i x y : Fin n) (hi : i * (x - X) = 1) (hl : l = (y - Y) * i) (h r h2 : Fin n) (hh : h = x * (z * z) - X * (z * z)) (hr : r = y * (z * z * z) - Y * (z * z * z)) (hh2 : h2 = h * h) :
    r * r - h * h2 - (X * (z * z) * h2 + X * (z * z) * h2) = (l * l - X - x) * (h * z * (h * z)) := by
  have : l * (x - X) = y - Y := by grind
  subst hh hr hh2
  clear hl
  grind

theorem more_y (X Y z l i x y x' : Fin n) (hi : i * (x - X) = 1) (hl : l = (y - Y) * i) (h r h2 : Fin n) (hh : h = x * (z * z) - X * (z * z)) (hr : r = y * (z * z * z) - Y * (z * z * z)) (hh2 : h2 = h * h)
    (hx : x' = (l * l - X - x) * (h * z * (h * z))) :
    r * (X * (z * z) * h2 - x') - Y * (z * z * z) * (h * h2) = (l * (X - (l * l - X - x)) - Y) * (h * z * (h * z) * (h * z)) := by
  have : l * (x - X) = y - Y := by grind
  subst hx hh hr hh2
  clear hl
  grind

theorem twice_zero (Y z : Fin n) (h : Y + Y = 0) : 2 * (Y * (z * z * z) * z) = 0 := by grind
theorem twice_nonzero (hp : IsPrime n) (Y z i : Fin n) (hi : i * (Y + Y) = 1) (hz : z ≠ 0) : 2 * (Y * (z * z * z) * z) ≠ 0 := by
  intro h
  have h2 : z * z * (z * z) = 0 := by grind
  have h3 := fin_mul_ne_zero hp hz hz
  exact fin_mul_ne_zero hp h3 h3 h2
theorem neg_sq (x : Fin n) : (0 - x) * (0 - x) = x * x := by grind
theorem neg_add_self (x : Fin n) : 0 - x + x = 0 := by grind
theorem one_two (x : Fin n) : x = x * (1 * 1) := by grind
theorem one_three (x : Fin n) : x = x * (1 * 1 * 1) := by grind
theorem self_sub (x : Fin n) : x - x = 0 := by grind
theorem zero_mul' (x : Fin n) : 0 * x = 0 := by grind
theorem scale_two (hp : IsPrime n) {z x X : Fin n} (hz : z ≠ 0) (h : x * (z * z) - X * (z * z) = 0) : x = X := by
  have : z * z * x = z * z * X := by grind
  exact fin_cancel hp (fin_mul_ne_zero hp hz hz) this
theorem scale_three (hp : IsPrime n) {z x X : Fin n} (hz : z ≠ 0) (h : x * (z * z * z) - X * (z * z * z) = 0) : x = X := by
  have : z * z * z * x = z * z * z * X := by grind
  exact fin_cancel hp (fin_mul_ne_zero hp (fin_mul_ne_zero hp hz hz) hz) this
/-- back to the point itself -/
theorem unscale (X z i : Fin n) (hi : i * z = 1) : X * (z * z) * (i * i) = X := by grind
theorem unscale3 (Y z i : Fin n) (hi : i * z = 1) : Y * (z * z * z) * (i * i * i) = Y := by grind

end
end Obol

