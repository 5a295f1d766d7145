/- What the program's and the references' numbers modulo another one are, as rests of whole numbers; the contracts told so. -/
import Derived.Test.YtibmidoepeghpaaZPModx
import Derived.Test.YtibmidoepeghpaaZFld
namespace Go.Proofs.Ytibmidoepeghpaa.G
open Go.RowKit Go.Proofs.YtibmidoepeghpaaW.PrintWords Go.Proofs.YtibmidoepeghpaaW.PrintLast Go.Proofs.YtibmidoepeghpaaW.PrintMore

def w64 (a : Int) : Prop := 0 ≤ a ∧ a < 18446744073709551616
instance (a : Int) : Decidable (w64 a) := by unfold w64; infer_instance
/-- a modulus -/
def md (m : Int) : Prop := 2 ≤ m ∧ m ≤ 4611686018427387904
instance (m : Int) : Decidable (md m) := by unfold md; infer_instance

theorem no_spec {m : Int} (h : md m) : PMod.modular_no.f m = some false := by
  unfold md at h; unfold PMod.modular_no.f; rw [if_neg (by omega)]; simp; omega

theorem tmod_of {a m : Int} (h : 0 ≤ a) : Int.tmod a m = a % m := Int.tmod_eq_emod_of_nonneg h

theorem shr_eq {x : Int} {n : Int} (h1 : n ≤ 64) : shr .u64 x n = x / 2 ^ n.toNat := by
  unfold shr; rw [Nat.min_eq_left]; simp [IntKind.bits]; omega

theorem u64_and_one {x : Int} (h : w64 x) : bits .and .u64 x 1 = x % 2 :=
  bits_mask .u64 64 (by decide) (fun n h0 h1 => wu64_in h0 (by simpa using h1)) 1 (by decide) x h.1 (by simpa using h.2)

theorem bit_at {y : Int} (h : w64 y) {n : Int} (h1 : n ≤ 64) : bits .and .u64 (shr .u64 y n) 1 = y / 2 ^ n.toNat % 2 := by
  rw [shr_eq h1]
  have a : 0 ≤ y / 2 ^ n.toNat := Int.ediv_nonneg h.1 (Int.le_of_lt (Int.pow_pos (by decide)))
  have b : y / 2 ^ n.toNat ≤ y := Int.ediv_le_self _ h.1
  exact u64_and_one ⟨a, by have := h.2; omega⟩

/-! ### the references -/

theorem wrap64_in {n : Int} (h0 : -9223372036854775808 ≤ n) (h1 : n < 9223372036854775808) : wrap64 n = n := by unfold wrap64; omega

/-- powers -/
def ipow (m a e : Int) : Int := (Obol.pm m.toNat 64 a.toNat e.toNat : Nat)

theorem ipow_eq {m a e : Int} (hm : 0 ≤ m) (ha : 0 ≤ a) (he : w64 e) : ipow m a e = a ^ e.toNat % m := by
  unfold ipow
  rw [Obol.pm_eq _ _ _ _ (by unfold w64 at he; omega)]
  obtain ⟨m, rfl⟩ := Int.eq_ofNat_of_zero_le hm
  obtain ⟨a, rfl⟩ := Int.eq_ofNat_of_zero_le ha
  simp

/-! ### the program's -/

def modular_Add.f (a0 a1 a2 : Int) : Option Int := if md a0 ∧ w64 a1 ∧ w64 a2 then some ((a1 + a2) % a0) else none
def modular_Sub.f (a0 a1 a2 : Int) : Option Int := if md a0 ∧ w64 a1 ∧ w64 a2 then some ((a1 - a2) % a0) else none
def modular_Mul.f (a0 a1 a2 : Int) : Option Int := if md a0 ∧ w64 a1 ∧ w64 a2 then some (a1 * a2 % a0) else none
theorem modAdd_spec {m a b : Int} (hm : md m) (ha : w64 a) (hb : w64 b) : PMod.modular_Add.f m a b = some ((a + b) % m) := by
  unfold PMod.modular_Add.f
  rw [no_spec hm]
  unfold md at hm; unfold w64 at ha hb
  simp only [Option.bind_some]
  rw [if_neg (by decide), if_neg (by omega), tmod_of ha.1, tmod_of hb.1]
  have p0 := Int.emod_nonneg a (b := m) (by omega)
  have p1 := Int.emod_lt_of_pos a (b := m) (by omega)
  have q0 := Int.emod_nonneg b (b := m) (by omega)
  have q1 := Int.emod_lt_of_pos b (b := m) (by omega)
  rw [wu64_in (by omega) (by omega), tmod_of (by omega), ← Int.add_emod]

theorem modSub_spec {m a b : Int} (hm : md m) (ha : w64 a) (hb : w64 b) : PMod.modular_Sub.f m a b = some ((a - b) % m) := by
  unfold PMod.modular_Sub.f
  rw [no_spec hm]
  unfold md at hm; unfold w64 at ha hb
  simp only [Option.bind_some]
  rw [if_neg (by decide), if_neg (by omega), tmod_of ha.1, tmod_of hb.1]
  have p0 := Int.emod_nonneg a (b := m) (by omega)
  have p1 := Int.emod_lt_of_pos a (b := m) (by omega)
  have q0 := Int.emod_nonneg b (b := m) (by omega)
  have q1 := Int.emod_lt_of_pos b (b := m) (by omega)
  rw [wu64_in (n := a % m + m) (by omega) (by omega), wu64_in (by omega) (by omega), tmod_of (by omega), show a % m + m - b % m = a % m - b % m + m by omega, Int.add_emod_right, ← Int.sub_emod]

theorem modMul_spec {m a b : Int} (hm : md m) (ha : w64 a) (hb : w64 b) : PMod.modular_Mul.f m a b = some (a * b % m) := by
  unfold PMod.modular_Mul.f
  rw [no_spec hm]
  unfold md at hm; unfold w64 at ha hb
  simp only [Option.bind_some]
  rw [if_neg (by decide), if_neg (by omega), tmod_of ha.1, tmod_of hb.1]
  have p0 := Int.emod_nonneg a (b := m) (by omega)
  have p1 := Int.emod_lt_of_pos a (b := m) (by omega)
  have q0 := Int.emod_nonneg b (b := m) (by omega)
  have q1 := Int.emod_lt_of_pos b (b := m) (by omega)
  rw [Int.mul_emod]
  generalize a % m = x at *
  generalize b % m = y at *
  have z0 : 0 ≤ x * y := Int.mul_nonneg p0 q0
  have z1 : x * y < m * m := by
    have := Int.mul_le_mul (a := x) (b := y) (c := m - 1) (d := m) (by omega) (by omega) q0 (by omega)
    have e : (m - 1) * m = m * m - m := by rw [Int.sub_mul, Int.one_mul]
    omega
  have z2 : x * y / 18446744073709551616 < m := by
    apply Int.ediv_lt_of_lt_mul (by decide)
    have := Int.mul_le_mul_of_nonneg_left (a := m) (show m ≤ 18446744073709551616 by omega) (show 0 ≤ m by omega)
    omega
  have hM : bits_Mul64.f x y = some (x * y / 18446744073709551616, x * y % 18446744073709551616) := by
    unfold bits_Mul64.f; rw [if_pos (by omega)]
  rw [hM]
  simp only [Option.bind_some]
  have hD : bits_Div64.f (x * y / 18446744073709551616) (x * y % 18446744073709551616) m = some (x * y / m, x * y % m) := by
    unfold bits_Div64.f; rw [if_pos (by omega)]
    have : x * y / 18446744073709551616 * 18446744073709551616 + x * y % 18446744073709551616 = x * y := by omega
    rw [this]
  rw [hD]; rfl

theorem modular_Add.calls (a0 a1 a2 r : Int) (w : World) (h : modular_Add.f a0 a1 a2 = some r) :
    Calls Try.prog 52 #[.int .u64 a0, .int .u64 a1, .int .u64 a2] w fun e w' => e = .returned (.int .u64 r) ∧ Drawn0 w w' := by
  unfold modular_Add.f at h
  split at h
  · rename_i hc; exact PMod.modular_Add.calls _ _ _ _ w ((modAdd_spec hc.1 hc.2.1 hc.2.2).trans h)
  · cases h

theorem modular_Sub.calls (a0 a1 a2 r : Int) (w : World) (h : modular_Sub.f a0 a1 a2 = some r) :
    Calls Try.prog 64 #[.int .u64 a0, .int .u64 a1, .int .u64 a2] w fun e w' => e = .returned (.int .u64 r) ∧ Drawn0 w w' := by
  unfold modular_Sub.f at h
  split at h
  · rename_i hc; exact PMod.modular_Sub.calls _ _ _ _ w ((modSub_spec hc.1 hc.2.1 hc.2.2).trans h)
  · cases h

theorem modular_Mul.calls (a0 a1 a2 r : Int) (w : World) (h : modular_Mul.f a0 a1 a2 = some r) :
    Calls Try.prog 67 #[.int .u64 a0, .int .u64 a1, .int .u64 a2] w fun e w' => e = .returned (.int .u64 r) ∧ Drawn0 w w' := by
  unfold modular_Mul.f at h
  split at h
  · rename_i hc; exact PMod.modular_Mul.calls _ _ _ _ w ((modMul_spec hc.1 hc.2.1 hc.2.2).trans h)
  · cases h

end Go.Proofs.Ytibmidoepeghpaa.G
