/- The inverse modulo a prime, by Euclid, is the power that Fermat tells: a contract over E. -/
import Derived.Test.YtdbpjegocmdplaaModC
import Derived.Test.YtdbpjegocmdplaaFld
import Derived.Test.YtdbpjegocmdplaaProg
import Derived.KernelRfl
set_option linter.unusedVariables false
set_option linter.unusedSimpArgs false
set_option maxRecDepth 10000
open Go Go.Proofs.Ytdbpjegocmdplaa.E Go.Proofs
namespace Go.Proofs.Ytdbpjegocmdplaa.E.M
/-- one of the three primes -/
def prm (m : Int) : Prop := m = 1152921505151057923 ∨ m = 288230376287764481 ∨ m = 72057593894066549
theorem prm_prime {m : Int} (h : prm m) : Obol.IsPrime m.toNat ∧ md m ∧ (m.toNat : Int) = m := by
  rcases h with h | h | h <;> subst h
  · exact ⟨Obol.prime_P, by decide, rfl⟩
  · exact ⟨Obol.prime_R, by decide, rfl⟩
  · exact ⟨Obol.prime_S, by decide, rfl⟩
theorem sub_mul_emod (u t a m : Int) : (u - t) % m * a % m = (u * a - t * a) % m := by
  rw [Int.mul_emod, Int.emod_emod_of_dvd _ (Int.dvd_refl m), ← Int.mul_emod, Int.sub_mul]

theorem fermat_int {m a : Int} (h : prm m) (ha : a % m ≠ 0) (h0 : 0 ≤ a) : a ^ (m.toNat - 1) % m = 1 := by
  obtain ⟨hp, hm, e⟩ := prm_prime h
  obtain ⟨n, rfl⟩ := Int.eq_ofNat_of_zero_le h0
  have := Obol.fermat hp (a := n) (by
    intro hd
    apply ha
    rw [← e]
    exact_mod_cast Nat.mod_eq_zero_of_dvd hd)
  rw [← e]
  exact_mod_cast this

theorem gcd_prime {m a : Int} (h : prm m) (h0 : 0 ≤ a) (h1 : a < m) : (Int.gcd m a = 1 ↔ a ≠ 0) := by
  obtain ⟨hp, hm, e⟩ := prm_prime h
  have hg : Int.gcd m a = Nat.gcd m.toNat a.toNat := by
    obtain ⟨n, rfl⟩ := Int.eq_ofNat_of_zero_le h0
    have : m = ((m.toNat : Nat) : Int) := e.symm
    rw [this]; rfl
  rw [hg]
  constructor
  · intro hc ha
    subst ha
    have := hp.1
    simp at hc
    omega
  · intro ha
    exact Obol.prime_coprime hp (fun hd => by have := Nat.le_of_dvd (by omega) hd; omega)

def inv (m a : Int) : Int := ipow m a (m - 2)

theorem inv_mul {m a : Int} (h : prm m) (h0 : w64 a) (ha : a % m ≠ 0) : inv m a * a % m = 1 ∧ 0 ≤ inv m a ∧ inv m a < m := by
  obtain ⟨hp, hm, e⟩ := prm_prime h
  unfold inv
  rw [ipow_eq (by omega) h0.1 (by omega)]
  refine ⟨?_, Int.emod_nonneg _ (by omega), Int.emod_lt_of_pos _ (by omega)⟩
  have h1 := fermat_int h ha h0.1
  have hp2 := hp.1
  rw [Int.mul_emod, Int.emod_emod_of_dvd _ (Int.dvd_refl m), ← Int.mul_emod, ← Int.pow_succ, show (m - 2).toNat.succ = m.toNat - 1 by omega]
  exact h1

theorem inv_unique {m a U : Int} (h : prm m) (h0 : w64 a) (ha : a % m ≠ 0) (U0 : 0 ≤ U) (U1 : U < m) (hU : U * a % m = 1) : U = inv m a := by
  obtain ⟨hi, i0, i1⟩ := inv_mul h h0 ha
  have e : U * (inv m a * a) % m = U := by rw [Int.mul_emod, hi, Int.mul_one, Int.emod_emod_of_dvd _ (Int.dvd_refl m)]; exact Int.emod_eq_of_lt U0 U1
  have e2 : U * (inv m a * a) % m = inv m a := by
    rw [Int.mul_left_comm, Int.mul_emod, hU, Int.mul_one, Int.emod_emod_of_dvd _ (Int.dvd_refl m)]; exact Int.emod_eq_of_lt i0 i1
  rw [← e, e2]


abbrev er (n : Int) : AV := .val (.iface 52 (.int .i64 n))
abbrev nil_ : AV := .val .nilIface
theorem tCode : tIface Try.prog 52 = some false := rfl
theorem tErr : tCls Try.prog 39 = .iface := rfl
set_option maxHeartbeats 1000000 in
theorem modular_Inv_c {m a : Int} (h : prm m) (ha : w64 a) : Fn Try.prog 67 [u m, u a] [] (fun r _ => r = .tup (if a % m = 0 then [u 0, er 2] else [u (inv m a), nil_])) := by
  obtain ⟨hp, hm, e⟩ := prm_prime h
  have m0 : ¬ m = 0 := by omega
  have h5 := tmod_nn (m := m) ha.1
  have y0 := Int.emod_nonneg a (b := m) (by omega)
  have y1 := Int.emod_lt_of_pos a (b := m) (by omega)
  have hg := gcd_prime h y0 y1
  have tCode := tCode
  refine Fn.enter Try.func67 Try.ntmps67 rfl (h := ?_)
  repeat refine AW.seq ?_
  refine AW.reg ?_
  iterate 2 refine AOL.s1 (h := ?_)
  refine AOL.nil ?_
  refine AW.kq [0, 1] (h := ?_)
  repeat refine AW.seq ?_
  refine AW.reg ?_
  iterate 1 refine AOL.s1 (h := ?_)
  refine AOL.callD rfl (modular_no_c hm) (by kernel_rfl) rfl rfl (h := ?_)
  refine AOL.nil ?_
  refine AW.kq [0, 1, 12] (h := ?_)
  repeat refine AW.seq ?_
  refine AW.cond rfl (fun c_ => ?_) (fun c_ => ?_)
  · cases c_
  refine AW.skip ?_
  repeat refine AW.seq ?_
  refine AW.drw 5 [] (by kernel_rfl) (h := ?_)
  iterate 5 refine ADL.dm 1 (h := ?_)
  refine ADL.done hmix rfl rfl (hT := ?_)
  iterate 3 refine AOL.s1 (h := ?_)
  refine AOL.nil ?_
  refine AW.kq [0, 6, 7, 8, 9] (h := ?_)
  repeat refine AW.seq ?_
  refine AW.block ?_
  repeat refine AW.seq ?_
  refine AW.loopK [0, 6, 7, 8, 9] (fun n s => ∃ x y U V : Int, s = ⟨39, [(0, u m), (6, u x), (7, u y), (8, u U), (9, u V)], []⟩ ∧ n = y.toNat ∧ w64 x ∧ w64 y ∧ (0 ≤ U ∧ U < m) ∧ (0 ≤ V ∧ V < m) ∧ id (U * a % m = x % m) ∧ id (V * a % m = y % m) ∧ id (Int.gcd x y = Int.gcd m (a % m))) (a % m).toNat ?_ ?_
  · exact ⟨_, _, _, _, rfl, rfl, ⟨by omega, by omega⟩, ⟨y0, by omega⟩, ⟨by omega, by omega⟩, ⟨by omega, by omega⟩, by show 0 * a % m = m % m; rw [Int.zero_mul, Int.emod_self]; rfl, by show 1 * a % m = a % m % m; rw [Int.one_mul, Int.emod_emod_of_dvd _ (Int.dvd_refl m)], rfl⟩
  rintro n s ⟨x, y, U, V, rfl, rfl, hx, hy, hU, hV, eU, eV, eG⟩
  repeat refine AW.seq ?_
  refine AW.reg ?_
  iterate 2 refine AOL.s1 (h := ?_)
  refine AOL.nil ?_
  refine AW.kq [0, 6, 7, 8, 9, 19] (h := ?_)
  repeat refine AW.seq ?_
  refine AW.cond rfl (fun c_ => ?_) (fun c_ => ?_)
  · have hy0 : 0 < y := by simpa using c_
    have yn : ¬ y = 0 := by omega
    have q0 : 0 ≤ x / y := Int.ediv_nonneg hx.1 hy.1
    have q1 : x / y ≤ x := Int.ediv_le_self y hx.1
    have r0 := Int.emod_nonneg x (b := y) (by omega)
    have r1 := Int.emod_lt_of_pos x (b := y) (by omega)
    have hM := modular_Mul_c hm (a := x / y) (b := V) ⟨q0, by omega⟩ ⟨hV.1, by omega⟩
    have t := lt_mod hm (x / y * V)
    have hS := modular_Sub_c hm (a := U) (b := x / y * V % m) ⟨hU.1, by omega⟩ ⟨t.1, by omega⟩
    have d1 : IntKind.u64.wrap (x.tdiv y) = x / y := by rw [Int.tdiv_eq_ediv_of_nonneg hx.1, wrapU_o q0 (by omega)]
    have d2 : x.tmod y = x % y := Int.tmod_eq_emod_of_nonneg hx.1
    have eV' : id (id ((U - x / y * V % m) % m * a % m = x % y % m)) := by
      show (U - x / y * V % m) % m * a % m = x % y % m
      have e1 : x / y * V % m * a % m = x / y * (V * a) % m := by rw [Int.mul_emod, Int.emod_emod_of_dvd _ (Int.dvd_refl m), ← Int.mul_emod, Int.mul_assoc]
      have e2 : x / y * (V * a) % m = x / y * y % m := by rw [Int.mul_emod, show V * a % m = y % m from eV, ← Int.mul_emod]
      rw [sub_mul_emod, Int.sub_emod, show U * a % m = x % m from eU, e1, e2, ← Int.sub_emod]
      congr 1
      have := Int.mul_ediv_add_emod x y
      rw [Int.mul_comm] at this
      omega
    have eG' : id (id (Int.gcd y (x % y) = Int.gcd m (a % m))) := by
      show Int.gcd y (x % y) = Int.gcd m (a % m)
      rw [← show Int.gcd x y = Int.gcd m (a % m) from eG]
      have e := Int.mul_ediv_add_emod x y
      have : Int.gcd y (y * (x / y) + x % y) = Int.gcd y (x % y) := by
        rw [Int.add_comm]; simp
      rw [e] at this
      rw [← this, Int.gcd_comm]
    have s1 := lt_mod hm (U - x / y * V % m)
    refine AW.skip ?_
    repeat refine AW.seq ?_
    refine AW.block ?_
    repeat refine AW.seq ?_
    refine AW.reg ?_
    iterate 4 refine AOL.s1 (h := ?_)
    refine AOL.nil ?_
    refine AW.kq [0, 6, 7, 8, 9, 10] (h := ?_)
    repeat refine AW.seq ?_
    refine AW.drw 5 [] (by kernel_rfl) (h := ?_)
    iterate 1 refine ADL.dm 1 (h := ?_)
    refine ADL.l1 [6] rfl (h := ?_)
    iterate 3 refine ADL.dm 1 (h := ?_)
    refine ADL.done hmix rfl rfl (hT := ?_)
    iterate 1 refine AOL.s1 (h := ?_)
    refine AOL.nil ?_
    refine AW.kq [0, 6, 7, 8, 9, 10] (h := ?_)
    repeat refine AW.seq ?_
    refine AW.reg ?_
    iterate 6 refine AOL.s1 (h := ?_)
    refine AOL.callD rfl (hM) (by kernel_rfl) rfl rfl (h := ?_)
    refine AOL.callD rfl (hS) (by kernel_rfl) rfl rfl (h := ?_)
    iterate 2 refine AOL.s1 (h := ?_)
    refine AOL.nil ?_
    exact ⟨(x % y).toNat, by omega, _, _, _, _, rfl, rfl, hy, ⟨r0, by omega⟩, hV, s1, eV, eV', eG'⟩
  have hy0 : y = 0 := by simp at c_; omega
  subst hy0
  have eG : x.natAbs = Int.gcd m (a % m) := by rw [← show Int.gcd x 0 = Int.gcd m (a % m) from eG, Int.gcd_zero_right]
  have eU : U * a % m = x % m := eU
  repeat refine AW.seq ?_
  refine AW.exit ?_
  repeat (first | refine Kseq.ex ?_ | refine Kloop.ex ?_ | refine Kblock.miss (by decide) ?_)
  refine Kblock.hit ?_
  refine AW.kq [6, 8] (h := ?_)
  by_cases hz : a % m = 0
  · have hx1 : ¬ x = 1 := by
      intro hx1
      subst hx1
      exact hg.1 (by rw [← eG]; rfl) hz
    clear eG eU
    have x1 : (x != 1) = true := by simpa using hx1
    repeat refine AW.seq ?_
    refine AW.reg ?_
    iterate 2 refine AOL.s1 (h := ?_)
    refine AOL.nil ?_
    refine AW.kq [8, 36] (h := ?_)
    repeat refine AW.seq ?_
    refine AW.cond rfl (fun d_ => ?_) (fun d_ => ?_)
    · repeat refine AW.seq ?_
      refine AW.reg ?_
      iterate 3 refine AOL.s1 (h := ?_)
      refine AOL.nil ?_
      refine AW.kq [4, 5] (h := ?_)
      repeat refine AW.seq ?_
      refine AW.ret ?_
      refine ⟨_, [], rfl, HOk.nil _, ?_⟩
      simp only [one?, if_pos hz]
    · cases d_
  have hx1 : x = 1 := by have := hg.2 hz; omega
  subst hx1
  have hUu : U = inv m a := inv_unique h ha hz hU.1 hU.2 (by rw [eU]; exact Int.emod_eq_of_lt (by omega) (by omega))
  clear eG eU
  repeat refine AW.seq ?_
  refine AW.reg ?_
  iterate 2 refine AOL.s1 (h := ?_)
  refine AOL.nil ?_
  refine AW.kq [8, 36] (h := ?_)
  repeat refine AW.seq ?_
  refine AW.cond rfl (fun d_ => ?_) (fun d_ => ?_)
  · cases d_
  refine AW.skip ?_
  repeat refine AW.seq ?_
  refine AW.reg ?_
  iterate 3 refine AOL.s1 (h := ?_)
  refine AOL.nil ?_
  refine AW.kq [4, 5] (h := ?_)
  repeat refine AW.seq ?_
  refine AW.ret ?_
  refine ⟨_, [], rfl, HOk.nil _, ?_⟩
  simp only [one?, hUu, if_neg hz]
end Go.Proofs.Ytdbpjegocmdplaa.E.M

