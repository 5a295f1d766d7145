/- The inverse modulo a prime, by Euclid, is the power that Fermat tells. -/
import Derived.Test.YtibmidoepeghpaaZMod
namespace Go.Proofs.Ytibmidoepeghpaa.G
open Go.RowKit Go.Proofs.YtibmidoepeghpaaW.PrintWords Go.Proofs.YtibmidoepeghpaaW.PrintLast Go.Proofs.YtibmidoepeghpaaW.PrintMore

/-- one of the three primes -/
def prm (m : Int) : Prop := m = 1152921505151057923 ∨ m = 288230376287764481 ∨ m = 72057593894066549
instance (m : Int) : Decidable (prm m) := by unfold prm; infer_instance

theorem prm_prime {m : Int} (h : prm m) : Obol.IsPrime m.toNat ∧ md m ∧ (m.toNat : Int) = m := by
  rcases h with h | h | h <;> subst h
  · exact ⟨Obol.prime_P, by decide, rfl⟩
  · exact ⟨Obol.prime_R, by decide, rfl⟩
  · exact ⟨Obol.prime_S, by decide, rfl⟩

theorem sub_mul_emod (u t a m : Int) : (u - t) % m * a % m = (u * a - t * a) % m := by
  rw [Int.mul_emod, Int.emod_emod_of_dvd _ (Int.dvd_refl m), ← Int.mul_emod, Int.sub_mul]

theorem inv_loop {m a : Int} (hm : md m) : ∀ (n : Nat) (x y u v : Int), y.toNat ≤ n → 0 ≤ y → y < 18446744073709551616 → 0 ≤ x → x < 18446744073709551616 → 0 ≤ u → u < m → 0 ≤ v → v < m →
    u * a % m = x % m → v * a % m = y % m →
    ∃ (k : Nat) (U : Int), PMod.modular_Inv.l0 k m x y u v = (if Int.gcd x y = 1 then some (U, none) else some (0, some 2)) ∧ 0 ≤ U ∧ U < m ∧ U * a % m = (Int.gcd x y : Int) % m := by
  have hm' := hm
  unfold md at hm'
  intro n
  induction n with
  | zero =>
    intro x y u v hn y0 y1 x0 x1 u0 u1 v0 v1 hu hv
    have : y = 0 := by omega
    subst this
    refine ⟨1, u, ?_, u0, u1, ?_⟩
    · simp only [PMod.modular_Inv.l0]
      rw [if_neg (by omega), Int.gcd_zero_right]
      by_cases h1 : x = 1
      · rw [if_pos h1, if_pos (by omega)]
      · rw [if_neg h1, if_neg (by omega)]
    · rw [hu, Int.gcd_zero_right, Int.natAbs_of_nonneg x0]
  | succ n ih =>
    intro x y u v hn y0 y1 x0 x1 u0 u1 v0 v1 hu hv
    by_cases hy : y = 0
    · subst hy
      exact ih x 0 u v (by omega) y0 y1 x0 x1 u0 u1 v0 v1 hu hv
    have q0 : 0 ≤ x / y := Int.ediv_nonneg x0 y0
    have q1 : x / y ≤ x := Int.ediv_le_self y x0
    have r0 := Int.emod_nonneg x (b := y) (by omega)
    have r1 := Int.emod_lt_of_pos x (b := y) (by omega)
    have t0 := Int.emod_nonneg (x / y * v) (b := m) (by omega)
    have t1 := Int.emod_lt_of_pos (x / y * v) (b := m) (by omega)
    have s0 := Int.emod_nonneg (u - x / y * v % m) (b := m) (by omega)
    have s1 := Int.emod_lt_of_pos (u - x / y * v % m) (b := m) (by omega)
    have hM := modMul_spec hm (a := x / y) (b := v) ⟨q0, by omega⟩ ⟨v0, by omega⟩
    have hS := modSub_spec hm (a := u) (b := x / y * v % m) ⟨u0, by omega⟩ ⟨t0, by omega⟩
    obtain ⟨k, U, hk, U0, U1, hU⟩ := ih y (x % y) v ((u - x / y * v % m) % m) (by omega) r0 (by omega) y0 y1 v0 v1 s0 s1 hv (by
      have e : x / y * v % m * a % m = x / y * (v * a) % m := by rw [Int.mul_emod, Int.emod_emod_of_dvd _ (Int.dvd_refl m), ← Int.mul_emod, Int.mul_assoc]
      have e2 : x / y * (v * a) % m = x / y * y % m := by rw [Int.mul_emod, hv, ← Int.mul_emod]
      rw [sub_mul_emod, Int.sub_emod, hu, e, e2, ← Int.sub_emod]
      congr 1
      have := Int.mul_ediv_add_emod x y
      rw [Int.mul_comm] at this
      omega)
    have g : Int.gcd y (x % y) = Int.gcd x y := by
      have e := Int.mul_ediv_add_emod x y
      have : Int.gcd y (y * (x / y) + x % y) = Int.gcd y (x % y) := by
        rw [Int.add_comm]; simp
      rw [e] at this
      rw [← this, Int.gcd_comm]
    rw [g] at hk hU
    refine ⟨k + 1, U, ?_, U0, U1, hU⟩
    simp only [PMod.modular_Inv.l0]
    rw [if_pos (by omega), if_neg hy, Int.tdiv_eq_ediv_of_nonneg x0, wu64_in q0 (by omega), hM]
    simp only [Option.bind_some]
    rw [hS]
    simp only [Option.bind_some]
    rw [tmod_of x0]
    exact hk

theorem fermat_int {m a : Int} (h : prm m) (ha : a % m ≠ 0) (h0 : 0 ≤ a) : a ^ (m.toNat - 1) % m = 1 := by
  obtain ⟨hp, hm, e⟩ := prm_prime h
  obtain ⟨n, rfl⟩ := Int.eq_ofNat_of_zero_le h0
  have := Obol.fermat hp (a := n) (by
    intro hd
    apply ha
    rw [← e]
    exact_mod_cast Nat.mod_eq_zero_of_dvd hd)
  rw [← e]
  exact_mod_cast this

theorem gcd_prime {m a : Int} (h : prm m) (h0 : 0 ≤ a) (h1 : a < m) : (Int.gcd m a = 1 ↔ a ≠ 0) := by
  obtain ⟨hp, hm, e⟩ := prm_prime h
  have hg : Int.gcd m a = Nat.gcd m.toNat a.toNat := by
    obtain ⟨n, rfl⟩ := Int.eq_ofNat_of_zero_le h0
    have : m = ((m.toNat : Nat) : Int) := e.symm
    rw [this]; rfl
  rw [hg]
  constructor
  · intro hc ha
    subst ha
    have := hp.1
    simp at hc
    omega
  · intro ha
    exact Obol.prime_coprime hp (fun hd => by have := Nat.le_of_dvd (by omega) hd; unfold md at hm; omega)

def inv (m a : Int) : Int := ipow m a (m - 2)

theorem inv_mul {m a : Int} (h : prm m) (h0 : w64 a) (ha : a % m ≠ 0) : inv m a * a % m = 1 ∧ 0 ≤ inv m a ∧ inv m a < m := by
  obtain ⟨hp, hm, e⟩ := prm_prime h
  unfold inv
  rw [ipow_eq (by unfold md at hm; omega) h0.1 (by unfold md at hm; unfold w64; omega)]
  refine ⟨?_, Int.emod_nonneg _ (by unfold md at hm; omega), Int.emod_lt_of_pos _ (by unfold md at hm; omega)⟩
  have h1 := fermat_int h ha h0.1
  have hp2 := hp.1
  rw [Int.mul_emod, Int.emod_emod_of_dvd _ (Int.dvd_refl m), ← Int.mul_emod, ← Int.pow_succ, show (m - 2).toNat.succ = m.toNat - 1 by omega]
  exact h1

theorem inv_unique {m a U : Int} (h : prm m) (h0 : w64 a) (ha : a % m ≠ 0) (U0 : 0 ≤ U) (U1 : U < m) (hU : U * a % m = 1) : U = inv m a := by
  obtain ⟨hi, i0, i1⟩ := inv_mul h h0 ha
  have e : U * (inv m a * a) % m = U := by rw [Int.mul_emod, hi, Int.mul_one, Int.emod_emod_of_dvd _ (Int.dvd_refl m)]; exact Int.emod_eq_of_lt U0 U1
  have e2 : U * (inv m a * a) % m = inv m a := by
    rw [Int.mul_left_comm, Int.mul_emod, hU, Int.mul_one, Int.emod_emod_of_dvd _ (Int.dvd_refl m)]; exact Int.emod_eq_of_lt i0 i1
  rw [← e, e2]

theorem modInv_spec {m a : Int} (h : prm m) (ha : w64 a) : ∃ k, PMod.modular_Inv.f k m a = if a % m = 0 then some (0, some 2) else some (inv m a, none) := by
  obtain ⟨hp, hm, e⟩ := prm_prime h
  unfold PMod.modular_Inv.f
  have hm' := hm
  unfold md at hm'
  rw [no_spec hm]
  simp only [Option.bind_some, if_neg (show ¬ (false = true) by decide), if_neg (show ¬ (m = 0) by omega)]
  have y0 := Int.emod_nonneg a (b := m) (by omega)
  have y1 := Int.emod_lt_of_pos a (b := m) (by omega)
  obtain ⟨k, U, hk, U0, U1, hU⟩ := inv_loop (a := a) hm (a % m).toNat m (a % m) 0 1 (Nat.le_refl _) y0 (by omega) (by omega) (by omega) (by omega) (by omega) (by omega) (by omega)
    (by rw [Int.zero_mul, Int.emod_self]; rfl) (by rw [Int.one_mul, Int.emod_emod_of_dvd _ (Int.dvd_refl m)])
  refine ⟨k, ?_⟩
  rw [tmod_of ha.1, hk]
  have hg := gcd_prime h y0 y1
  by_cases hz : a % m = 0
  · rw [if_pos hz, if_neg (fun hc => hg.1 hc hz)]
  · have g1 := hg.2 hz
    rw [if_pos g1, if_neg hz]
    rw [g1] at hU
    rw [inv_unique h ha hz U0 U1 (by rw [hU]; exact Int.emod_eq_of_lt (by omega) (by omega))]

def modular_Inv.f (a0 a1 : Int) : Option (Int × Option Int) :=
  if prm a0 ∧ w64 a1 then (if a1 % a0 = 0 then some (0, some 2) else some (inv a0 a1, none)) else none

theorem modular_Inv.calls (a0 a1 r1 : Int) (r2 : Option Int) (w : World) (h : modular_Inv.f a0 a1 = some (r1, r2)) :
    Calls Try.prog 49 #[.int .u64 a0, .int .u64 a1] w fun e w' => e = .returned (.tuple #[.int .u64 r1, PMod.errW r2]) ∧ Drawn0 w w' := by
  unfold modular_Inv.f at h
  by_cases hc : prm a0 ∧ w64 a1
  · rw [if_pos hc] at h
    obtain ⟨k, hk⟩ := modInv_spec hc.1 hc.2
    exact PMod.modular_Inv.calls k _ _ _ _ w (hk.trans h)
  · rw [if_neg hc] at h; cases h

end Go.Proofs.Ytibmidoepeghpaa.G
