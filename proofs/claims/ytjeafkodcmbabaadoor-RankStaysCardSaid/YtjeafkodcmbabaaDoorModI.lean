/- The inverse modulo a prime, by Euclid, is the power that Fermat tells: a contract over E. -/
import Derived.Test.YtjeafkodcmbabaaDoorModC
import Derived.Test.YtjeafkodcmbabaaDoorFld
import Derived.Test.YtjeafkodcmbabaaDoorProg
import Derived.KernelRfl
set_option linter.unusedVariables false
set_option linter.unusedSimpArgs false
set_option maxRecDepth 10000
open Go Go.Proofs.YtjeafkodcmbabaaDoor.E Go.Proofs
namespace Go.Proofs.YtjeafkodcmbabaaDoor.E.M
/-- one of the three primes -/
def prm (m : Int) : Prop := m = 1152921505151057923 ∨ m = 288230376287764481 ∨ m = 72057593894066549
theorem prm_prime {m : Int} (h : prm m) : Obol.IsPrime m.toNat ∧ md m ∧ (m.toNat : Int) = m := by
  rcases h with h | h | h <;> subst h
  · exact ⟨Obol.prime_P, by decide, rfl⟩
  · exact ⟨Obol.prime_R, by decide, rfl⟩
  · exact ⟨Obol.prime_S, by decide, rfl⟩
theorem sub_mul_emod (u t a m : Int) : (u - t) % m * a % m = (u * a - t * a) % m := by
  rw [Int.mul_emod, Int.emod_emod_of_dvd _ (Int.dvd_refl m), ← Int.mul_emod, Int.sub_mul]

theorem fermat_int {m a : Int} (h : prm m) (ha : a % m ≠ 0) (h0 : 0 ≤ a) : a ^ (m.toNat - 1) % m = 1 := by
  obtain ⟨hp, hm, e⟩ := prm_prime h
  obtain ⟨n, rfl⟩ := Int.eq_ofNat_of_zero_le h0
  have := Obol.fermat hp (a := n) (by
    intro hd
    apply ha
    rw [← e]
    exact_mod_cast Nat.mod_eq_zero_of_dvd hd)
  rw [← e]
  exact_mod_cast this

theorem gcd_prime {m a : Int} (h : prm m) (h0 : 0 ≤ a) (h1 : a < m) : (Int.gcd m a = 1 ↔ a ≠ 0) := by
  obtain ⟨hp, hm, e⟩ := prm_prime h
  have hg : Int.gcd m a = Nat.gcd m.toNat a.toNat := by
    obtain ⟨n, rfl⟩ := Int.eq_ofNat_of_zero_le h0
    have : m = ((m.toNat : Nat) : Int) := e.symm
    rw [this]; rfl
  rw [hg]
  constructor
  · intro hc ha
    subst ha
    have := hp.1
    simp at hc
    omega
  · intro ha
    exact Obol.prime_coprime hp (fun hd => by have := Nat.le_of_dvd (by omega) hd; omega)

def inv (m a : Int) : Int := ipow m a (m - 2)

theorem inv_mul {m a : Int} (h : prm m) (h0 : w64 a) (ha : a % m ≠ 0) : inv m a * a % m = 1 ∧ 0 ≤ inv m a ∧ inv m a < m := by
  obtain ⟨hp, hm, e⟩ := prm_prime h
  unfold inv
  rw [ipow_eq (by omega) h0.1 (by omega)]
  refine ⟨?_, Int.emod_nonneg _ (by omega), Int.emod_lt_of_pos _ (by omega)⟩
  have h1 := fermat_int h ha h0.1
  have hp2 := hp.1
  rw [Int.mul_emod, Int.emod_emod_of_dvd _ (Int.dvd_refl m), ← Int.mul_emod, ← Int.pow_succ, show (m - 2).toNat.succ = m.toNat - 1 by omega]
  exact h1

theorem inv_unique {m a U : Int} (h : prm m) (h0 : w64 a) (ha : a % m ≠ 0) (U0 : 0 ≤ U) (U1 : U < m) (hU : U * a % m = 1) : U = inv m a := by
  obtain ⟨hi, i0, i1⟩ := inv_mul h h0 ha
  have e : U * (inv m a * a) % m = U := by rw [Int.mul_emod, hi, Int.mul_one, Int.emod_emod_of_dvd _ (Int.dvd_refl m)]; exact Int.emod_eq_of_lt U0 U1
  have e2 : U * (inv m a * a) % m = inv m a := by
    rw [Int.mul_left_comm, Int.mul_emod, hU, Int.mul_one, Int.emod_emod_of_dvd _ (Int.dvd_refl m)]; exact Int.emod_eq_of_lt i0 i1
  rw [← e, e2]


abbrev er (n : Int) : AV := .val (.iface 44 (.int .i64 n))
abbrev nil_ : AV := .val .nilIface
theorem tCode : tIface Tryd.prog 44 = some false := rfl
theorem tErr : tCls Tryd.prog 32 = .iface := rfl
end Go.Proofs.YtjeafkodcmbabaaDoor.E.M

