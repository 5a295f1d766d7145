/- What the program's and the references' numbers modulo another one are, as rests of whole numbers; the contracts told so. -/
import Derived.Test.YtibmidoepeghpaaPModx
import Derived.Test.YtibmidoepeghpaaFld
namespace Go.Proofs.Ytibmidoepeghpaa.G
open Go.RowKit Go.Proofs.YtibmidoepeghpaaW.PrintWords Go.Proofs.YtibmidoepeghpaaW.PrintLast Go.Proofs.YtibmidoepeghpaaW.PrintMore

def w64 (a : Int) : Prop := 0 ≤ a ∧ a < 18446744073709551616
instance (a : Int) : Decidable (w64 a) := by unfold w64; infer_instance
/-- a modulus -/
def md (m : Int) : Prop := 2 ≤ m ∧ m ≤ 4611686018427387904
instance (m : Int) : Decidable (md m) := by unfold md; infer_instance

theorem w64_of_mod {m : Int} (hm : md m) (a : Int) : w64 (a % m) := by
  unfold md at hm; unfold w64
  have := Int.emod_nonneg a (b := m) (by omega)
  have := Int.emod_lt_of_pos a (b := m) (by omega)
  omega

theorem no_spec {m : Int} (h : md m) : PMod.modular_no.f m = some false := by
  unfold md at h; unfold PMod.modular_no.f; rw [if_neg (by omega)]; simp; omega

theorem tmod_of {a m : Int} (h : 0 ≤ a) : Int.tmod a m = a % m := Int.tmod_eq_emod_of_nonneg h

theorem shr_eq {x : Int} {n : Int} (h1 : n ≤ 64) : shr .u64 x n = x / 2 ^ n.toNat := by
  unfold shr; rw [Nat.min_eq_left]; simp [IntKind.bits]; omega

theorem u64_and_one {x : Int} (h : w64 x) : bits .and .u64 x 1 = x % 2 :=
  bits_mask .u64 64 (by decide) (fun n h0 h1 => wu64_in h0 (by simpa using h1)) 1 (by decide) x h.1 (by simpa using h.2)

theorem bit_at {y : Int} (h : w64 y) {n : Int} (h1 : n ≤ 64) : bits .and .u64 (shr .u64 y n) 1 = y / 2 ^ n.toNat % 2 := by
  rw [shr_eq h1]
  have a : 0 ≤ y / 2 ^ n.toNat := Int.ediv_nonneg h.1 (Int.le_of_lt (Int.pow_pos (by decide)))
  have b : y / 2 ^ n.toNat ≤ y := Int.ediv_le_self _ h.1
  exact u64_and_one ⟨a, by have := h.2; omega⟩

/-- one bit more from above -/
theorem bits_step (y : Int) (i : Nat) (hi : i < 64) : y / 2 ^ (63 - i) = 2 * (y / 2 ^ (64 - i)) + y / 2 ^ (63 - i) % 2 := by
  have e : (2 : Int) ^ (64 - i) = 2 ^ (63 - i) * 2 := by rw [← Int.pow_succ]; congr 1; omega
  rw [e, ← Int.ediv_ediv_of_nonneg (Int.le_of_lt (Int.pow_pos (by decide)))]
  omega

theorem bits_step' (y : Int) (i : Nat) (hi : i < 64) : ∃ t u : Int, y / 2 ^ (64 - i) = t ∧ y / 2 ^ (63 - i) = u ∧ y / 2 ^ (64 - (i + 1)) = u ∧ u = 2 * t + u % 2 :=
  ⟨_, _, rfl, rfl, by rw [show 64 - (i + 1) = 63 - i by omega], bits_step y i hi⟩

theorem toNat_two {t : Int} (h : 0 ≤ t) : (2 * t).toNat = 2 * t.toNat ∧ (2 * t + 1).toNat = 2 * t.toNat + 1 := by omega

theorem emod_twice {a m : Int} (h0 : 0 ≤ a) (h1 : a < m) : (if a ≥ m - a then a - (m - a) else a + a) = (2 * a) % m := by
  split
  · have : 2 * a = (2 * a - m) + m := by omega
    rw [this, Int.add_emod_right, Int.emod_eq_of_lt (by omega) (by omega)]; omega
  · rw [Int.emod_eq_of_lt (by omega) (by omega)]; omega

theorem emod_plus {a b m : Int} (h0 : 0 ≤ a) (h1 : a < m) (h2 : 0 ≤ b) (h3 : b < m) : (if a ≥ m - b then a - (m - b) else a + b) = (a + b) % m := by
  split
  · have : a + b = (a + b - m) + m := by omega
    rw [this, Int.add_emod_right, Int.emod_eq_of_lt (by omega) (by omega)]; omega
  · rw [Int.emod_eq_of_lt (by omega) (by omega)]

/-! ### the references -/

theorem wrap64_in {n : Int} (h0 : -9223372036854775808 ≤ n) (h1 : n < 9223372036854775808) : wrap64 n = n := by unfold wrap64; omega

theorem refMul_loop {m x y : Int} (hm : 0 < m) (hm1 : m < 18446744073709551616) (hx0 : 0 ≤ x) (hx1 : x < m) (hy : w64 y) :
    ∀ (n i : Nat) (o : Int), i + n = 64 → o = x * (y / 2 ^ (64 - i)) % m → ∃ k, PMod.obolref01_Mul.l0 k m x y o i = some (x * y % m) := by
  intro n
  induction n with
  | zero =>
    intro i o hi ho
    have : i = 64 := by omega
    subst this
    refine ⟨1, ?_⟩
    simp only [PMod.obolref01_Mul.l0]
    rw [if_neg (by omega), ho, Nat.sub_self, Int.pow_zero, Int.ediv_one]
  | succ n ih =>
    intro i o hi
    have hb : wrap64 (63 - (i : Int)) = ((63 - i : Nat) : Int) := by rw [wrap64_in (by omega) (by omega)]; omega
    have i1 : wrap64 ((i : Int) + 1) = ((i + 1 : Nat) : Int) := by rw [wrap64_in (by omega) (by omega)]; omega
    have i2 : i + 1 + n = 64 := by omega
    have i3 : (i : Int) < 64 := by omega
    have i4 : (0 : Int) ≤ ((63 - i : Nat) : Int) := by omega
    have i5 : ((63 - i : Nat) : Int) ≤ 64 := by omega
    have i6 : i < 64 := by omega
    intro ho
    have o0 : 0 ≤ o := by rw [ho]; exact Int.emod_nonneg _ (Int.ne_of_gt hm)
    have o1 : o < m := by rw [ho]; exact Int.emod_lt_of_pos _ hm
    have hb2 := bit_at hy (n := ((63 - i : Nat) : Int)) i5
    rw [Int.toNat_natCast] at hb2
    have ih' := fun o h => ih (i + 1) o i2 h
    clear ih
    obtain ⟨t, u, ht, hu, hu', st⟩ := bits_step' y i i6
    rw [hu] at hb2
    rw [ht] at ho
    rw [hu'] at ih'
    clear ht hu hu' hi i2
    have wm : IntKind.u64.wrap (m - o) = m - o := wu64_in (by omega) (by omega)
    have wx : IntKind.u64.wrap (m - x) = m - x := wu64_in (by omega) (by omega)
    -- after the doubling
    have join : ∀ z : Int, z = 2 * o % m → ∃ k, PMod.obolref01_Mul.j1 k m x y z i = some (x * y % m) := by
      intro z hz
      have z0 : 0 ≤ z := by rw [hz]; exact Int.emod_nonneg _ (by omega)
      have z1 : z < m := by rw [hz]; exact Int.emod_lt_of_pos _ hm
      have hzz : z = x * (2 * t) % m := by
        rw [hz, ho, Int.mul_emod, Int.emod_emod_of_dvd _ (Int.dvd_refl m), ← Int.mul_emod]; congr 1; rw [Int.mul_left_comm]
      by_cases b1 : u % 2 = 1
      · have e := emod_plus z0 z1 hx0 hx1
        have tgt : (z + x) % m = x * u % m := by
          rw [st, b1, Int.mul_add, Int.mul_one, hzz, Int.add_emod, Int.emod_emod_of_dvd _ (Int.dvd_refl m), ← Int.add_emod]
        by_cases hge : z ≥ m - x
        · rw [if_pos hge] at e
          obtain ⟨k, hk⟩ := ih' _ (e.trans tgt)
          refine ⟨k + 1, ?_⟩
          simp only [PMod.obolref01_Mul.j1]
          rw [hb, if_pos i4, hb2, i1, wx, if_pos b1, if_pos hge, wu64_in (by omega) (by omega)]
          exact hk
        · rw [if_neg hge] at e
          obtain ⟨k, hk⟩ := ih' _ (e.trans tgt)
          refine ⟨k + 1, ?_⟩
          simp only [PMod.obolref01_Mul.j1]
          rw [hb, if_pos i4, hb2, i1, wx, if_pos b1, if_neg hge, wu64_in (by omega) (by omega)]
          exact hk
      · obtain ⟨k, hk⟩ := ih' z (by rw [st, show u % 2 = 0 by omega, Int.add_zero]; exact hzz)
        refine ⟨k + 1, ?_⟩
        simp only [PMod.obolref01_Mul.j1]
        rw [hb, if_pos i4, hb2, i1, if_neg b1]
        exact hk
    have e := emod_twice o0 o1
    by_cases hge : o ≥ m - o
    · rw [if_pos hge] at e
      obtain ⟨k, hk⟩ := join _ e
      refine ⟨k + 1, ?_⟩
      simp only [PMod.obolref01_Mul.l0]
      rw [if_pos i3, wm, if_pos hge, wu64_in (by omega) (by omega)]
      exact hk
    · rw [if_neg hge] at e
      obtain ⟨k, hk⟩ := join _ e
      refine ⟨k + 1, ?_⟩
      simp only [PMod.obolref01_Mul.l0]
      rw [if_pos i3, wm, if_neg hge, wu64_in (by omega) (by omega)]
      exact hk

def obolref01_Mul.f (a0 a1 a2 : Int) : Option Int := if 0 < a0 ∧ a0 < 18446744073709551616 ∧ w64 a1 ∧ w64 a2 then some (a1 * a2 % a0) else none

theorem zero_high {y : Int} (h : w64 y) : y / 2 ^ (64 - 0) = 0 := Int.ediv_eq_zero_of_lt h.1 (by have := h.2; exact this)

theorem refMul_spec {m a b : Int} (hm : 0 < m) (hm1 : m < 18446744073709551616) (ha : w64 a) (hb : w64 b) : ∃ k, PMod.obolref01_Mul.f k m a b = some (a * b % m) := by
  unfold PMod.obolref01_Mul.f
  simp only [if_neg (show ¬ (m = 0) by omega)]
  rw [tmod_of ha.1, tmod_of hb.1]
  have b0 := Int.emod_nonneg b (b := m) (by omega)
  have b1 := Int.emod_lt_of_pos b hm
  have wb : w64 (b % m) := ⟨b0, by omega⟩
  have := refMul_loop (m := m) (x := a % m) (y := b % m) hm hm1 (Int.emod_nonneg _ (by omega)) (Int.emod_lt_of_pos _ hm) wb 64 0 0 rfl
    (by rw [zero_high wb, Int.mul_zero, Int.zero_emod])
  rw [← Int.mul_emod] at this
  exact this

theorem refMul_from {m a b : Int} (hm : 0 < m) (hm1 : m < 18446744073709551616) (ha : w64 a) (hb : w64 b) : ∃ K, ∀ k, K ≤ k → PMod.obolref01_Mul.f k m a b = some (a * b % m) := by
  obtain ⟨K, hK⟩ := refMul_spec hm hm1 ha hb
  refine ⟨K, fun k hk => ?_⟩
  obtain ⟨j, rfl⟩ : ∃ j, k = K + j := ⟨k - K, by omega⟩
  clear hk
  induction j with
  | zero => exact hK
  | succ j ih => exact PMod.obolref01_Mul.mono _ _ _ _ _ ih

theorem obolref01_Mul.calls (a0 a1 a2 r : Int) (w : World) (h : obolref01_Mul.f a0 a1 a2 = some r) :
    Calls Try.prog 33 #[.int .u64 a0, .int .u64 a1, .int .u64 a2] w fun e w' => e = .returned (.int .u64 r) ∧ Drawn0 w w' := by
  unfold obolref01_Mul.f at h
  split at h
  · rename_i hc
    obtain ⟨h0, h1, h2, h3⟩ := hc
    obtain ⟨k, hk⟩ := refMul_spec h0 h1 h2 h3
    exact PMod.obolref01_Mul.calls k _ _ _ _ w (hk.trans h)
  · cases h

def obolref01_Add.f (a0 a1 a2 : Int) : Option Int := if 0 < a0 ∧ a0 < 18446744073709551616 ∧ w64 a1 ∧ w64 a2 then some ((a1 + a2) % a0) else none

theorem obolref01_Add.calls (a0 a1 a2 r : Int) (w : World) (h : obolref01_Add.f a0 a1 a2 = some r) :
    Calls Try.prog 46 #[.int .u64 a0, .int .u64 a1, .int .u64 a2] w fun e w' => e = .returned (.int .u64 r) ∧ Drawn0 w w' := by
  unfold obolref01_Add.f at h
  split at h
  · rename_i hc
    obtain ⟨h0, h1, h2, h3⟩ := hc
    refine PMod.obolref01_Add.calls _ _ _ _ w (Eq.trans ?_ h)
    unfold PMod.obolref01_Add.f
    have p0 := Int.emod_nonneg a1 (b := a0) (by omega)
    have p1 := Int.emod_lt_of_pos a1 h0
    have q0 := Int.emod_nonneg a2 (b := a0) (by omega)
    have q1 := Int.emod_lt_of_pos a2 h0
    have e := emod_plus p0 p1 q0 q1
    rw [← Int.add_emod] at e
    rw [if_neg (by omega), tmod_of h2.1, tmod_of h3.1, wu64_in (n := a0 - a2 % a0) (by omega) (by omega)]
    split
    · rename_i hge
      rw [if_pos hge] at e
      rw [wu64_in (by omega) (by omega), e]
    · rename_i hge
      rw [if_neg hge] at e
      rw [wu64_in (by omega) (by omega), e]
  · cases h

def obolref02_Neg.f (a0 : Int) : Option Int := if w64 a0 then some (-a0 % 1152921505151057923) else none

theorem obolref02_Neg.calls (a0 r : Int) (w : World) (h : obolref02_Neg.f a0 = some r) :
    Calls Try.prog 60 #[.int .u64 a0] w fun e w' => e = .returned (.int .u64 r) ∧ Drawn0 w w' := by
  unfold obolref02_Neg.f at h
  split at h
  · rename_i hc
    unfold w64 at hc
    refine PMod.obolref02_Neg.calls _ _ w (Eq.trans ?_ h)
    unfold PMod.obolref02_Neg.f
    rw [tmod_of hc.1]
    split
    · rename_i h0; congr 1; omega
    · rename_i h0
      rw [wu64_in (by omega) (by omega)]; congr 1; omega
  · cases h

/-- powers -/
def ipow (m a e : Int) : Int := (Obol.pm m.toNat 64 a.toNat e.toNat : Nat)

theorem ipow_eq {m a e : Int} (hm : 0 ≤ m) (ha : 0 ≤ a) (he : w64 e) : ipow m a e = a ^ e.toNat % m := by
  unfold ipow
  rw [Obol.pm_eq _ _ _ _ (by unfold w64 at he; omega)]
  obtain ⟨m, rfl⟩ := Int.eq_ofNat_of_zero_le hm
  obtain ⟨a, rfl⟩ := Int.eq_ofNat_of_zero_le ha
  simp

theorem pow_emod (a m : Int) (n : Nat) : (a % m) ^ n % m = a ^ n % m := by
  induction n with
  | zero => simp
  | succ n ih => rw [Int.pow_succ, Int.mul_emod, ih, Int.emod_emod_of_dvd _ (Int.dvd_refl m), ← Int.mul_emod, ← Int.pow_succ]

theorem refPow_loop {m a e : Int} (hm : 0 < m) (hm1 : m < 18446744073709551616) (ha : w64 a) (he : w64 e) :
    ∀ (n i : Nat) (o : Int), i + n = 64 → o = a ^ (e / 2 ^ (64 - i)).toNat % m → ∃ K, ∀ k, K ≤ k → PMod.obolref01_Pow.l0 k m a e o i = some (a ^ e.toNat % m) := by
  intro n
  induction n with
  | zero =>
    intro i o hi ho
    have : i = 64 := by omega
    subst this
    refine ⟨1, fun k hk => ?_⟩
    obtain ⟨k, rfl⟩ : ∃ j, k = j + 1 := ⟨k - 1, by omega⟩
    simp only [PMod.obolref01_Pow.l0]
    rw [if_neg (by omega), ho, Nat.sub_self, Int.pow_zero, Int.ediv_one]
  | succ n ih =>
    intro i o hi
    have hb : wrap64 (63 - (i : Int)) = ((63 - i : Nat) : Int) := by rw [wrap64_in (by omega) (by omega)]; omega
    have i1 : wrap64 ((i : Int) + 1) = ((i + 1 : Nat) : Int) := by rw [wrap64_in (by omega) (by omega)]; omega
    have i2 : i + 1 + n = 64 := by omega
    have i3 : (i : Int) < 64 := by omega
    have i4 : (0 : Int) ≤ ((63 - i : Nat) : Int) := by omega
    have i5 : ((63 - i : Nat) : Int) ≤ 64 := by omega
    have i6 : i < 64 := by omega
    intro ho
    have o0 : 0 ≤ o := by rw [ho]; exact Int.emod_nonneg _ (Int.ne_of_gt hm)
    have o1 : o < m := by rw [ho]; exact Int.emod_lt_of_pos _ hm
    have wo : w64 o := ⟨o0, Int.lt_trans o1 hm1⟩
    have e0 : 0 ≤ e / 2 ^ (64 - i) := Int.ediv_nonneg he.1 (Int.le_of_lt (Int.pow_pos (by decide)))
    have hb2 := bit_at he (n := ((63 - i : Nat) : Int)) i5
    rw [Int.toNat_natCast] at hb2
    have ih' := fun o h => ih (i + 1) o i2 h
    clear ih
    obtain ⟨t, u, ht, hu, hu', st⟩ := bits_step' e i i6
    rw [hu] at hb2
    rw [ht] at ho e0
    rw [hu'] at ih'
    clear ht hu hu' hi i2
    obtain ⟨t2, t21⟩ := toNat_two e0
    have sq : o * o % m = a ^ (2 * t.toNat) % m := by
      rw [ho, ← Int.mul_emod, ← Int.pow_add, Nat.two_mul]
    have s0 := Int.emod_nonneg (o * o) (b := m) (by omega)
    have s1 := Int.emod_lt_of_pos (o * o) hm
    have ws : w64 (o * o % m) := ⟨s0, by omega⟩
    obtain ⟨K1, hK1⟩ := refMul_from hm hm1 wo wo
    obtain ⟨K2, hK2⟩ := refMul_from hm hm1 ws ha
    by_cases b1 : u % 2 = 1
    · obtain ⟨K, hK⟩ := ih' (o * o % m * a % m) (by
        rw [st, b1, sq, t21, Int.pow_succ, Int.mul_emod, Int.emod_emod_of_dvd _ (Int.dvd_refl m), ← Int.mul_emod])
      refine ⟨K + K1 + K2 + 1, fun k hk => ?_⟩
      obtain ⟨k, rfl⟩ : ∃ j, k = j + 1 := ⟨k - 1, by omega⟩
      simp only [PMod.obolref01_Pow.l0]
      rw [if_pos i3, hK1 k (by omega)]
      simp only [Option.bind_some]
      rw [hb, if_pos i4, hb2, i1, if_pos b1, hK2 k (by omega)]
      simp only [Option.bind_some]
      exact hK k (by omega)
    · obtain ⟨K, hK⟩ := ih' (o * o % m) (by
        rw [st, show u % 2 = 0 by omega, sq, Int.add_zero, t2])
      refine ⟨K + K1 + 1, fun k hk => ?_⟩
      obtain ⟨k, rfl⟩ : ∃ j, k = j + 1 := ⟨k - 1, by omega⟩
      simp only [PMod.obolref01_Pow.l0]
      rw [if_pos i3, hK1 k (by omega)]
      simp only [Option.bind_some]
      rw [hb, if_pos i4, hb2, i1, if_neg b1]
      exact hK k (by omega)

def obolref01_Pow.f (a0 a1 a2 : Int) : Option Int := if 0 < a0 ∧ a0 < 18446744073709551616 ∧ w64 a1 ∧ w64 a2 then some (ipow a0 a1 a2) else none

theorem obolref01_Pow.calls (a0 a1 a2 r : Int) (w : World) (h : obolref01_Pow.f a0 a1 a2 = some r) :
    Calls Try.prog 72 #[.int .u64 a0, .int .u64 a1, .int .u64 a2] w fun e w' => e = .returned (.int .u64 r) ∧ Drawn0 w w' := by
  unfold obolref01_Pow.f at h
  split at h
  · rename_i hc
    obtain ⟨h0, h1, h2, h3⟩ := hc
    obtain ⟨K, hK⟩ := refPow_loop h0 h1 h2 h3 64 0 (1 % a0) rfl (by rw [zero_high h3, show Int.toNat 0 = 0 from rfl, Int.pow_zero])
    refine PMod.obolref01_Pow.calls K _ _ _ _ w (Eq.trans ?_ h)
    unfold PMod.obolref01_Pow.f
    rw [if_neg (by omega), ipow_eq (by omega) h2.1 h3]
    exact hK K (Nat.le_refl _)
  · cases h

/-! ### the program's -/

def modular_Add.f (a0 a1 a2 : Int) : Option Int := if md a0 ∧ w64 a1 ∧ w64 a2 then some ((a1 + a2) % a0) else none
def modular_Sub.f (a0 a1 a2 : Int) : Option Int := if md a0 ∧ w64 a1 ∧ w64 a2 then some ((a1 - a2) % a0) else none
def modular_Mul.f (a0 a1 a2 : Int) : Option Int := if md a0 ∧ w64 a1 ∧ w64 a2 then some (a1 * a2 % a0) else none
def modular_Pow.f (a0 a1 a2 : Int) : Option Int := if md a0 ∧ w64 a1 ∧ w64 a2 then some (ipow a0 a1 a2) else none

theorem modAdd_spec {m a b : Int} (hm : md m) (ha : w64 a) (hb : w64 b) : PMod.modular_Add.f m a b = some ((a + b) % m) := by
  unfold PMod.modular_Add.f
  rw [no_spec hm]
  unfold md at hm; unfold w64 at ha hb
  simp only [Option.bind_some]
  rw [if_neg (by decide), if_neg (by omega), tmod_of ha.1, tmod_of hb.1]
  have p0 := Int.emod_nonneg a (b := m) (by omega)
  have p1 := Int.emod_lt_of_pos a (b := m) (by omega)
  have q0 := Int.emod_nonneg b (b := m) (by omega)
  have q1 := Int.emod_lt_of_pos b (b := m) (by omega)
  rw [wu64_in (by omega) (by omega), tmod_of (by omega), ← Int.add_emod]

theorem modSub_spec {m a b : Int} (hm : md m) (ha : w64 a) (hb : w64 b) : PMod.modular_Sub.f m a b = some ((a - b) % m) := by
  unfold PMod.modular_Sub.f
  rw [no_spec hm]
  unfold md at hm; unfold w64 at ha hb
  simp only [Option.bind_some]
  rw [if_neg (by decide), if_neg (by omega), tmod_of ha.1, tmod_of hb.1]
  have p0 := Int.emod_nonneg a (b := m) (by omega)
  have p1 := Int.emod_lt_of_pos a (b := m) (by omega)
  have q0 := Int.emod_nonneg b (b := m) (by omega)
  have q1 := Int.emod_lt_of_pos b (b := m) (by omega)
  rw [wu64_in (n := a % m + m) (by omega) (by omega), wu64_in (by omega) (by omega), tmod_of (by omega), show a % m + m - b % m = a % m - b % m + m by omega, Int.add_emod_right, ← Int.sub_emod]

theorem modMul_spec {m a b : Int} (hm : md m) (ha : w64 a) (hb : w64 b) : PMod.modular_Mul.f m a b = some (a * b % m) := by
  unfold PMod.modular_Mul.f
  rw [no_spec hm]
  unfold md at hm; unfold w64 at ha hb
  simp only [Option.bind_some]
  rw [if_neg (by decide), if_neg (by omega), tmod_of ha.1, tmod_of hb.1]
  have p0 := Int.emod_nonneg a (b := m) (by omega)
  have p1 := Int.emod_lt_of_pos a (b := m) (by omega)
  have q0 := Int.emod_nonneg b (b := m) (by omega)
  have q1 := Int.emod_lt_of_pos b (b := m) (by omega)
  rw [Int.mul_emod]
  generalize a % m = x at *
  generalize b % m = y at *
  have z0 : 0 ≤ x * y := Int.mul_nonneg p0 q0
  have z1 : x * y < m * m := by
    have := Int.mul_le_mul (a := x) (b := y) (c := m - 1) (d := m) (by omega) (by omega) q0 (by omega)
    have e : (m - 1) * m = m * m - m := by rw [Int.sub_mul, Int.one_mul]
    omega
  have z2 : x * y / 18446744073709551616 < m := by
    apply Int.ediv_lt_of_lt_mul (by decide)
    have := Int.mul_le_mul_of_nonneg_left (a := m) (show m ≤ 18446744073709551616 by omega) (show 0 ≤ m by omega)
    omega
  have hM : bits_Mul64.f x y = some (x * y / 18446744073709551616, x * y % 18446744073709551616) := by
    unfold bits_Mul64.f; rw [if_pos (by omega)]
  rw [hM]
  simp only [Option.bind_some]
  have hD : bits_Div64.f (x * y / 18446744073709551616) (x * y % 18446744073709551616) m = some (x * y / m, x * y % m) := by
    unfold bits_Div64.f; rw [if_pos (by omega)]
    have : x * y / 18446744073709551616 * 18446744073709551616 + x * y % 18446744073709551616 = x * y := by omega
    rw [this]
  rw [hD]; rfl

theorem modular_Add.calls (a0 a1 a2 r : Int) (w : World) (h : modular_Add.f a0 a1 a2 = some r) :
    Calls Try.prog 52 #[.int .u64 a0, .int .u64 a1, .int .u64 a2] w fun e w' => e = .returned (.int .u64 r) ∧ Drawn0 w w' := by
  unfold modular_Add.f at h
  split at h
  · rename_i hc; exact PMod.modular_Add.calls _ _ _ _ w ((modAdd_spec hc.1 hc.2.1 hc.2.2).trans h)
  · cases h

theorem modular_Sub.calls (a0 a1 a2 r : Int) (w : World) (h : modular_Sub.f a0 a1 a2 = some r) :
    Calls Try.prog 64 #[.int .u64 a0, .int .u64 a1, .int .u64 a2] w fun e w' => e = .returned (.int .u64 r) ∧ Drawn0 w w' := by
  unfold modular_Sub.f at h
  split at h
  · rename_i hc; exact PMod.modular_Sub.calls _ _ _ _ w ((modSub_spec hc.1 hc.2.1 hc.2.2).trans h)
  · cases h

theorem modular_Mul.calls (a0 a1 a2 r : Int) (w : World) (h : modular_Mul.f a0 a1 a2 = some r) :
    Calls Try.prog 67 #[.int .u64 a0, .int .u64 a1, .int .u64 a2] w fun e w' => e = .returned (.int .u64 r) ∧ Drawn0 w w' := by
  unfold modular_Mul.f at h
  split at h
  · rename_i hc; exact PMod.modular_Mul.calls _ _ _ _ w ((modMul_spec hc.1 hc.2.1 hc.2.2).trans h)
  · cases h

theorem modPow_loop {m : Int} (hm : md m) : ∀ (n : Nat) (a e o : Int), 0 ≤ a → a < m → 0 ≤ o → o < m → 0 ≤ e → e < 2 ^ n → e < 18446744073709551616 → ∃ k, PMod.modular_Pow.l0 k m a e o = some (o * a ^ e.toNat % m) := by
  intro n
  induction n with
  | zero =>
    intro a e o a0 a1 o0 o1 e0 e1 _
    have : e = 0 := by simp at e1; omega
    subst this
    refine ⟨1, ?_⟩
    simp only [PMod.modular_Pow.l0]
    rw [if_neg (by omega)]; simp; exact (Int.emod_eq_of_lt o0 o1).symm
  | succ n ih =>
    intro a e o a0 a1 o0 o1 e0 e1 e64
    have hm' := hm
    unfold md at hm'
    have wa : w64 a := ⟨a0, by omega⟩
    have wo : w64 o := ⟨o0, by omega⟩
    by_cases he : e > 0
    · have h2 : e / 2 < 2 ^ n := by rw [Int.pow_succ] at e1; omega
      have sq := modMul_spec hm wa wa
      have s0 := Int.emod_nonneg (a * a) (b := m) (by omega)
      have s1 := Int.emod_lt_of_pos (a * a) (b := m) (by omega)
      have pw : (a * a % m) ^ (e / 2).toNat % m = a ^ (2 * (e / 2).toNat) % m := by
        rw [pow_emod, Int.pow_mul, Int.pow_succ, Int.pow_succ, Int.pow_zero, Int.one_mul]
      by_cases b1 : e % 2 = 1
      · have t0 := Int.emod_nonneg (o * a) (b := m) (by omega)
        have t1 := Int.emod_lt_of_pos (o * a) (b := m) (by omega)
        obtain ⟨k, hk⟩ := ih _ _ _ s0 s1 t0 t1 (show 0 ≤ e / 2 by omega) h2 (by omega)
        refine ⟨k + 1, ?_⟩
        simp only [PMod.modular_Pow.l0]
        rw [if_pos he, u64_and_one ⟨e0, e64⟩, if_pos b1, modMul_spec hm wo wa, sq]
        simp only [Option.bind_some]
        rw [hk, Int.mul_emod, pw, Int.emod_emod_of_dvd _ (Int.dvd_refl m), ← Int.mul_emod, Int.mul_assoc, ← Int.pow_succ']
        congr 4; omega
      · obtain ⟨k, hk⟩ := ih _ _ _ s0 s1 o0 o1 (show 0 ≤ e / 2 by omega) h2 (by omega)
        refine ⟨k + 1, ?_⟩
        simp only [PMod.modular_Pow.l0]
        rw [if_pos he, u64_and_one ⟨e0, e64⟩, if_neg b1, sq]
        simp only [Option.bind_some]
        rw [hk, Int.mul_emod, pw, ← Int.mul_emod]
        congr 4; omega
    · have : e = 0 := by omega
      subst this
      refine ⟨1, ?_⟩
      simp only [PMod.modular_Pow.l0]
      rw [if_neg he]
      simp; exact (Int.emod_eq_of_lt o0 o1).symm

theorem modPow_spec {m a e : Int} (hm : md m) (ha : w64 a) (he : w64 e) : ∃ k, PMod.modular_Pow.f k m a e = some (ipow m a e) := by
  unfold PMod.modular_Pow.f
  rw [no_spec hm]
  have hm' := hm
  unfold md at hm'
  simp only [Option.bind_some, if_neg (show ¬ (false = true) by decide), if_neg (show ¬ (m = 0) by omega)]
  obtain ⟨k, hk⟩ := modPow_loop hm 64 (a % m) e 1 (Int.emod_nonneg _ (by omega)) (Int.emod_lt_of_pos _ (by omega)) (by omega) (by omega) he.1 he.2 he.2
  refine ⟨k, ?_⟩
  rw [tmod_of ha.1, ipow_eq (by omega) ha.1 he, hk, Int.one_mul, pow_emod]

theorem modular_Pow.calls (a0 a1 a2 r : Int) (w : World) (h : modular_Pow.f a0 a1 a2 = some r) :
    Calls Try.prog 70 #[.int .u64 a0, .int .u64 a1, .int .u64 a2] w fun e w' => e = .returned (.int .u64 r) ∧ Drawn0 w w' := by
  unfold modular_Pow.f at h
  split at h
  · rename_i hc; obtain ⟨k, hk⟩ := modPow_spec hc.1 hc.2.1 hc.2.2; exact PMod.modular_Pow.calls k _ _ _ _ w (hk.trans h)
  · cases h

end Go.Proofs.Ytibmidoepeghpaa.G
