/- Products of pairings by the program, and the document's examples: contracts over E. -/
import Derived.Test.YtdbpjegocmdplaaPairB
import Derived.Test.YtdbpjegocmdplaaProg
import Derived.KernelRfl
set_option linter.unusedVariables false
set_option linter.unusedSimpArgs false
set_option maxRecDepth 10000
open Go Go.Proofs.Ytdbpjegocmdplaa.E Go.Proofs
namespace Go.Proofs.Ytdbpjegocmdplaa.E.M
abbrev GG : P3 := (false, 247390119040843104, 830327839767444578)
theorem gg_pt : Pt GG := show isPt false 247390119040843104 830327839767444578 = true by decide +kernel
theorem gg_ok : ((pairE (true, 0, 0) GG == (1, 0)) && ((pairE GG GG != (1, 0)) && ((pairE GG GG != (0, 0)) && (powE (pairE GG GG) 288230376287764481 == (1, 0))))) = true := by decide +kernel
theorem plo_lt : ∀ (n : Nat) (a : Int × Int) (e : Int) (o : Int × Int), lt o.1 ∧ lt o.2 → lt (plo n a e o).1 ∧ lt (plo n a e o).2
  | 0, _, _, o, h => h
  | n + 1, a, e, o, h => by
    rw [plo]; split
    · refine plo_lt n _ _ _ ?_
      split
      · exact mulE_lt _ _
      · exact h
    · exact h
theorem pairE_lt (a q : P3) : lt (pairE a q).1 ∧ lt (pairE a q).2 := by
  unfold pairE; split
  · split
    · exact one_lt
    · exact plo_lt _ _ _ _ one_lt
  · exact ⟨⟨by decide, by decide⟩, ⟨by decide, by decide⟩⟩
theorem e_ne {e0 e1 c d : Int} (h : (e0, e1) ≠ (c, d)) : (e0 == c && e1 == d) = false := by
  rw [Bool.eq_false_iff]; intro hh; simp at hh; exact h (by rw [hh.1, hh.2])
theorem mulE_real (a b : Int) : mulE (a, 0) (b, 0) = (a * b % 1152921505151057923, 0) := by
  simp [mulE]
theorem bits_at (e : Int) (n : Nat) : e / 2 ^ n = 2 * (e / 2 ^ (n + 1)) + e / 2 ^ n % 2 := by
  rw [Int.pow_succ, ← Int.ediv_ediv_of_nonneg (Int.le_of_lt (Int.pow_pos (by decide)))]
  generalize e / 2 ^ n = z
  omega
theorem pw_real {v e : Int} (he : 0 ≤ e) : ∀ (n : Nat) (o : Int), o = v ^ (e / 2 ^ n).toNat % 1152921505151057923 → pw (v, 0) e n (o, 0) = (v ^ e.toNat % 1152921505151057923, 0)
  | 0, o, ho => by rw [Int.pow_zero, Int.ediv_one] at ho; rw [ho]; rfl
  | n + 1, o, ho => by
    show pw (v, 0) e n (stepE (v, 0) e n (o, 0)) = _
    have t0 : 0 ≤ e / 2 ^ (n + 1) := Int.ediv_nonneg he (Int.le_of_lt (Int.pow_pos (by decide)))
    have hb := bits_at e n
    generalize e / 2 ^ (n + 1) = t at *
    have sq : o * o % 1152921505151057923 = v ^ (2 * t.toNat) % 1152921505151057923 := by
      rw [ho, ← Int.mul_emod, ← Int.pow_add, Nat.two_mul]
    obtain ⟨t2, t21⟩ := toNat_two t0
    unfold stepE
    rw [mulE_real]
    split
    · rename_i b1
      rw [mulE_real]
      refine pw_real he n _ ?_
      rw [hb, b1, t21, Int.pow_succ, sq, Int.mul_emod, Int.emod_emod_of_dvd _ (Int.dvd_refl _), ← Int.mul_emod]
    · rename_i b1
      refine pw_real he n _ ?_
      rw [hb, show e / 2 ^ n % 2 = 0 by omega, Int.add_zero, t2, sq]
theorem powE_real {v e : Int} (he : w64 e) : powE (v, 0) e = (v ^ e.toNat % 1152921505151057923, 0) := by
  unfold powE
  refine pw_real he.1 64 1 ?_
  rw [show e / 2 ^ 64 = 0 from Int.ediv_eq_zero_of_lt he.1 he.2]; simp
theorem walls {v : Int} (hv : lt v) (h0 : v ≠ 0) : powE (powE (v, 0) 1152921505151057922) 4 = (1, 0) := by
  rw [powE_real (by decide)]
  have := fermat_int prmP (a := v) (by rw [hv.self]; exact h0) hv.1
  have e : ((1152921505151057923 : Int).toNat - 1) = (1152921505151057922 : Int).toNat := rfl
  rw [e] at this
  rw [this]
  decide +kernel
end Go.Proofs.Ytdbpjegocmdplaa.E.M

