/- Whole numbers of 64 bits, rests, powers: plain lemmas. -/
import Derived.Test.YthajlelljnkdiaaEJ
import Derived.Test.YthajlelljnkdiaaProg
import Derived.KernelRfl
set_option linter.unusedVariables false
set_option linter.unusedSimpArgs false
set_option maxRecDepth 10000
open Go Go.Proofs.Ythajlelljnkdiaa.E Go.Proofs
namespace Go.Proofs.Ythajlelljnkdiaa.E.M
abbrev u (n : Int) : AV := .val (.int .u64 n)
abbrev i (n : Int) : AV := .val (.int .i64 n)
abbrev bo (n : Bool) : AV := .val (.bool n)
theorem hmix : Try.prog.follows .mixedOrders = true := by kernel_rfl
abbrev w64 (a : Int) : Prop := 0 ≤ a ∧ a < 18446744073709551616
abbrev md (m : Int) : Prop := 2 ≤ m ∧ m ≤ 4611686018427387904
theorem w64_mod {m : Int} (hm : md m) (a : Int) : w64 (a % m) := by
  have h1 := Int.emod_nonneg a (show m ≠ 0 by omega)
  have h2 := Int.emod_lt_of_pos a (show 0 < m by omega)
  omega
theorem lt_mod {m : Int} (hm : md m) (a : Int) : 0 ≤ a % m ∧ a % m < m := ⟨Int.emod_nonneg a (by omega), Int.emod_lt_of_pos a (by omega)⟩
theorem tmod_nn {a m : Int} (h : 0 ≤ a) : Int.tmod a m = a % m := Int.tmod_eq_emod_of_nonneg h
theorem wu64 (n : Int) : IntKind.u64.wrap n = n % 18446744073709551616 := by simp [IntKind.wrap, IntKind.bits, IntKind.signed]
theorem mul_lt_KK {x y : Int} (h0 : 0 ≤ x) (h1 : x < 4294967296) (h2 : 0 ≤ y) (h3 : y < 4294967296) : 0 ≤ x * y ∧ x * y ≤ 18446744065119617025 := by
  refine ⟨Int.mul_nonneg h0 h2, ?_⟩
  have := Int.mul_le_mul (a := x) (b := y) (c := 4294967295) (d := 4294967295) (by omega) (by omega) h2 (by omega)
  omega

theorem and_low {x : Int} (h0 : 0 ≤ x) (h1 : x < 18446744073709551616) : IntKind.u64.wrap ((BitVec.ofInt IntKind.u64.bits x &&& BitVec.ofInt IntKind.u64.bits 4294967295).toNat : Int) = x % 4294967296 := by
  obtain ⟨n, rfl⟩ := Int.eq_ofNat_of_zero_le h0
  have h2 : (BitVec.ofInt IntKind.u64.bits (n:Int) &&& BitVec.ofInt IntKind.u64.bits 4294967295).toNat = n % 4294967296 := by
    rw [BitVec.toNat_and, BitVec.toNat_ofInt, BitVec.toNat_ofInt]
    have e1 : ((n:Int) % ((2 ^ IntKind.u64.bits : Nat) : Int)).toNat = n := by simp only [IntKind.bits]; omega
    have e2 : ((4294967295:Int) % ((2 ^ IntKind.u64.bits : Nat) : Int)).toNat = 2 ^ 32 - 1 := by decide
    rw [e1, e2, Nat.and_two_pow_sub_one_eq_mod]
  rw [h2, wrapU_o (by omega) (by omega)]; omega
theorem and_one {x : Int} (h0 : 0 ≤ x) (h1 : x < 18446744073709551616) : IntKind.u64.wrap ((BitVec.ofInt IntKind.u64.bits x &&& BitVec.ofInt IntKind.u64.bits 1).toNat : Int) = x % 2 := by
  obtain ⟨n, rfl⟩ := Int.eq_ofNat_of_zero_le h0
  have h2 : (BitVec.ofInt IntKind.u64.bits (n:Int) &&& BitVec.ofInt IntKind.u64.bits 1).toNat = n % 2 := by
    rw [BitVec.toNat_and, BitVec.toNat_ofInt, BitVec.toNat_ofInt]
    have e1 : ((n:Int) % ((2 ^ IntKind.u64.bits : Nat) : Int)).toNat = n := by simp only [IntKind.bits]; omega
    have e2 : ((1:Int) % ((2 ^ IntKind.u64.bits : Nat) : Int)).toNat = 1 := by decide
    rw [e1, e2, Nat.and_one_is_mod]
  rw [h2, wrapU_o (by omega) (by omega)]; omega
theorem or_join {T a b : Int} (s : Nat) (hs : s < 64) (hT : T = 2 ^ s) (h0 : 0 ≤ a) (h1 : a * T + b < 18446744073709551616) (hb0 : 0 ≤ b) (hb : b < T) : IntKind.u64.wrap ((BitVec.ofInt IntKind.u64.bits (a * T) ||| BitVec.ofInt IntKind.u64.bits b).toNat : Int) = a * T + b := by
  obtain ⟨n, rfl⟩ := Int.eq_ofNat_of_zero_le h0
  obtain ⟨m, rfl⟩ := Int.eq_ofNat_of_zero_le hb0
  have hT' : T = ((2 ^ s : Nat) : Int) := by rw [hT]; exact (Int.natCast_pow 2 s).symm
  rw [hT'] at h1 hb ⊢
  have hb' : m < 2 ^ s := Int.ofNat_lt.1 hb
  rw [← Int.natCast_mul] at h1 ⊢
  have hor : n * 2 ^ s + m = n * 2 ^ s ||| m := by rw [Nat.mul_comm n, ← Nat.two_pow_add_eq_or_of_lt hb']
  generalize n * 2 ^ s = k at *
  have e1 : ((k:Int) % ((2 ^ IntKind.u64.bits : Nat) : Int)).toNat = k := by simp only [IntKind.bits]; omega
  have e2 : ((m:Int) % ((2 ^ IntKind.u64.bits : Nat) : Int)).toNat = m := by simp only [IntKind.bits]; omega
  have h2 : (BitVec.ofInt IntKind.u64.bits (k:Int) ||| BitVec.ofInt IntKind.u64.bits (m:Int)).toNat = k + m := by
    rw [BitVec.toNat_or, BitVec.toNat_ofInt, BitVec.toNat_ofInt, e1, e2, hor]
  rw [h2, wrapU_o (by omega) (by omega)]; omega
theorem shr32 {x : Int} (h0 : 0 ≤ x) : x.fdiv (2 ^ min (Int.toNat 32) IntKind.u64.bits) = x / 4294967296 := by
  rw [show (2:Int) ^ min (Int.toNat 32) IntKind.u64.bits = 4294967296 by decide, Int.fdiv_eq_ediv_of_nonneg _ (by decide)]
def pm (n : Nat) : Nat → Nat → Nat → Nat
  | 0, _, _ => 1 % n
  | k + 1, b, e => if e = 0 then 1 % n else if e % 2 = 1 then b * pm n k (b * b % n) (e / 2) % n else pm n k (b * b % n) (e / 2)
theorem pm_eq (n k : Nat) : ∀ b e, e < 2 ^ k → pm n k b e = b ^ e % n := by
  induction k with
  | zero => intro b e h; have : e = 0 := by omega
            subst this; simp [pm]
  | succ k ih =>
    intro b e h
    have h2 : e / 2 < 2 ^ k := by rw [Nat.pow_succ] at h; omega
    unfold pm
    split
    · subst_vars; simp
    · have key : (b * b % n) ^ (e / 2) % n = b ^ (2 * (e / 2)) % n := by rw [← Nat.pow_mod, Nat.pow_mul, Nat.pow_two]
      split
      · rw [ih _ _ h2, key, Nat.mul_mod, Nat.mod_mod, ← Nat.mul_mod, ← Nat.pow_succ']; congr 2; omega
      · rw [ih _ _ h2, key]; congr 2; omega
/-- powers -/
def ipow (m a e : Int) : Int := (pm m.toNat 64 a.toNat e.toNat : Nat)
theorem ipow_eq {m a e : Int} (hm : 0 ≤ m) (ha : 0 ≤ a) (he : w64 e) : ipow m a e = a ^ e.toNat % m := by
  unfold ipow
  rw [pm_eq _ _ _ _ (by omega)]
  obtain ⟨m, rfl⟩ := Int.eq_ofNat_of_zero_le hm
  obtain ⟨a, rfl⟩ := Int.eq_ofNat_of_zero_le ha
  simp
theorem pow_emod (a m : Int) (n : Nat) : (a % m) ^ n % m = a ^ n % m := by
  induction n with
  | zero => simp
  | succ n ih => rw [Int.pow_succ, Int.mul_emod, ih, Int.emod_emod_of_dvd _ (Int.dvd_refl m), ← Int.mul_emod, ← Int.pow_succ]
theorem pow_step (O A m : Int) (k : Nat) : O * (A * A % m) ^ k % m = O * A ^ (2 * k) % m := by
  rw [Int.mul_emod, pow_emod, ← Int.mul_emod, Int.pow_mul, show A ^ 2 = A * A by rw [Int.pow_succ, Int.pow_one]]
theorem bits_step (y : Int) (i : Nat) (hi : i < 64) : y / 2 ^ (63 - i) = 2 * (y / 2 ^ (64 - i)) + y / 2 ^ (63 - i) % 2 := by
  have h : (2:Int) ^ (64 - i) = 2 ^ (63 - i) * 2 := by rw [← Int.pow_succ]; congr 1; omega
  rw [h, ← Int.ediv_ediv_of_nonneg (Int.le_of_lt (Int.pow_pos (by decide)))]
  generalize y / 2 ^ (63 - i) = z
  omega
theorem bits_step' (y : Int) (i : Nat) (hi : i < 64) : ∃ t u : Int, y / 2 ^ (64 - i) = t ∧ y / 2 ^ (63 - i) = u ∧ y / 2 ^ (64 - (i + 1)) = u ∧ u = 2 * t + u % 2 :=
  ⟨_, _, rfl, rfl, by rw [show 64 - (i + 1) = 63 - i by omega], bits_step y i hi⟩
theorem emod_twice {a m : Int} (h0 : 0 ≤ a) (h1 : a < m) : (if a ≥ m - a then a - (m - a) else a + a) = (2 * a) % m := by
  split
  · have : 2 * a = (2 * a - m) + m := by omega
    rw [this, Int.add_emod_right, Int.emod_eq_of_lt (by omega) (by omega)]; omega
  · rw [Int.emod_eq_of_lt (by omega) (by omega)]; omega
theorem emod_plus {a b m : Int} (h0 : 0 ≤ a) (h1 : a < m) (h2 : 0 ≤ b) (h3 : b < m) : (if a ≥ m - b then a - (m - b) else a + b) = (a + b) % m := by
  split
  · have : a + b = (a + b - m) + m := by omega
    rw [this, Int.add_emod_right, Int.emod_eq_of_lt (by omega) (by omega)]; omega
  · rw [Int.emod_eq_of_lt (by omega) (by omega)]
theorem shr_b {y : Int} {k : Nat} (h : w64 y) (hk : k ≤ 64) : y.fdiv (2 ^ min k IntKind.u64.bits) = y / 2 ^ k ∧ w64 (y / 2 ^ k) := by
  have hp : (0:Int) < 2 ^ k := Int.pow_pos (by decide)
  rw [Nat.min_eq_left (by simp [IntKind.bits]; omega), Int.fdiv_eq_ediv_of_nonneg _ (Int.le_of_lt hp)]
  have h1 := Int.ediv_nonneg h.1 (Int.le_of_lt hp)
  have h2 := Int.ediv_le_self (2 ^ k) h.1
  generalize y / 2 ^ k = z at *
  exact ⟨rfl, h1, by omega⟩
theorem toNat_two {t : Int} (h : 0 ≤ t) : (2 * t).toNat = 2 * t.toNat ∧ (2 * t + 1).toNat = 2 * t.toNat + 1 := by omega
theorem zero_high {y : Int} (h : w64 y) : y / 2 ^ (64 - 0) = 0 := Int.ediv_eq_zero_of_lt h.1 (by have := h.2; exact this)
end Go.Proofs.Ythajlelljnkdiaa.E.M

