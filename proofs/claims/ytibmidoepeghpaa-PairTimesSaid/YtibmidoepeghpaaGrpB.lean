/- The curve's points are a group under the program's sums: over E. -/
import Derived.Test.YtibmidoepeghpaaCurE
import Derived.Test.YtibmidoepeghpaaGrpA
import Derived.Test.YtibmidoepeghpaaProg
import Derived.KernelRfl
set_option linter.unusedVariables false
set_option linter.unusedSimpArgs false
set_option maxRecDepth 10000
open Go Go.Proofs.Ytibmidoepeghpaa.E Go.Proofs
namespace Go.Proofs.Ytibmidoepeghpaa.E.M
open Obol

theorem fpow_pm {n : Nat} [NeZero n] {x y : Fin n} {m : Nat} (k : Nat) (hm : m < 2 ^ k) (h : pm n k x.val m = y.val) : fpow x m = y :=
  Fin.ext ((fpow_val x m).trans ((pm_eq n k x.val m hm).symm.trans h))

theorem goodP : Obol.Good 1152921505151057923 (K 763705535885484439) := by
  refine good_of prime_P 288230376287764480 rfl ?_ ?_
  · exact fpow_pm 64 (by decide) (by decide +kernel)
  · rw [← K_mul]
    have e : K (763705535885484439 * 763705535885484439) = K (-2) := K_iff.2 (by decide)
    rw [e, K_neg, K_2]

theorem finv_of {x i : FP} (h : i * x = 1) : finv x = i := by
  have hx : x ≠ 0 := by
    intro e
    rw [e] at h
    have h1 := goodP.one_ne
    exact h1 (h.symm.trans (mul_zero' i))
  have := finv_mul prime_P hx
  exact fin_cancel prime_P hx (this.trans ((mul_comm' x i).trans h).symm)

def toE (t : Bool × Int × Int) : EPt 1152921505151057923 := if t.1 = true then none else some (K t.2.1, K t.2.2)
theorem toE_on {t : Bool × Int × Int} (h : Pt t) : onE (toE t) := by
  obtain ⟨b, x, y⟩ := t
  cases b with
  | true => trivial
  | false => exact h.fin.2.2
theorem toE_inj {a b : Bool × Int × Int} (ha : Pt a) (hb : Pt b) (h : toE a = toE b) : a = b := by
  obtain ⟨a0, ax, ay⟩ := a
  obtain ⟨b0, bx, bY⟩ := b
  cases a0 with
  | true =>
    obtain ⟨rfl, rfl⟩ := ha.inf
    cases b0 with
    | true => obtain ⟨rfl, rfl⟩ := hb.inf; rfl
    | false => cases h
  | false =>
    cases b0 with
    | true => cases h
    | false =>
      have h1 : some (K ax, K ay) = some (K bx, K bY) := h
      injection h1 with h1
      injection h1 with h1 h2
      rw [K_inj ha.fin.1 hb.fin.1 h1, K_inj ha.fin.2.1 hb.fin.2.1 h2]

theorem toE_sum {a b : Bool × Int × Int} (ha : Pt a) (hb : Pt b) : toE (sumP a b) = addE (toE a) (toE b) := by
  obtain ⟨a0, ax, ay⟩ := a
  obtain ⟨b0, bx, bY⟩ := b
  cases a0 with
  | true => rfl
  | false =>
    cases b0 with
    | true => rfl
    | false =>
      have el : toE (false, ax, ay) = some (K ax, K ay) := rfl
      have er : toE (false, bx, bY) = some (K bx, K bY) := rfl
      rw [sumP_fin, el, er]
      have hx : ax = bx ↔ K ax = K bx := ⟨fun h => by rw [h], K_inj ha.fin.1 hb.fin.1⟩
      have hy : (ay + bY) % 1152921505151057923 = 0 ↔ K ay + K bY = 0 := by
        rw [← K_add, ← K_0, K_iff]; rfl
      unfold addE
      simp only
      by_cases hw : ax = bx ∧ (ay + bY) % 1152921505151057923 = 0
      · rw [if_pos hw, if_pos (hx.1 hw.1), if_pos (hy.1 hw.2)]; rfl
      · rw [if_neg hw]
        have hl : toE (lineP (lam (false, ax, ay) (false, bx, bY)) (false, ax, ay) (false, bx, bY)) = lineE (K (lam (false, ax, ay) (false, bx, bY))) (K ax) (K ay) (K bx) := by
          obtain ⟨h1, h2⟩ := line_K (ax := ax) (ay := ay) (bx := bx) (bY := bY) (l := lam (false, ax, ay) (false, bx, bY))
          unfold lineE
          rw [← h2, ← h1]; rfl
        rw [hl]
        rcases lam_K ha hb hw with ⟨e, e', i, hi, hk⟩ | ⟨e, i, hi, hk⟩
        · subst e e'
          rw [if_pos rfl, if_neg (fun h => hw ⟨rfl, hy.2 h⟩), hk, finv_of hi]
        · rw [if_neg (fun h => e (hx.2 h)), hk, finv_of hi]

theorem toE_step {a o : Bool × Int × Int} (ha : Pt a) {k : Int} (hk : 0 ≤ k) (i : Nat) (ho : Pt o) (j : Nat) (h : toE o = nsm (toE a) j) :
    toE (stepT a k i o) = nsm (toE a) (j + j + k.toNat / 2 ^ i % 2) := by
  have g := goodP
  have e : k / 2 ^ i % 2 = ((k.toNat / 2 ^ i % 2 : Nat) : Int) := by
    obtain ⟨m, rfl⟩ := Int.eq_ofNat_of_zero_le hk
    simp
  have hs := sumP_pt ho ho
  unfold stepT
  rw [e]
  have hd : toE (sumP o o) = nsm (toE a) (j + j) := by rw [toE_sum ho ho, h, nsm_add g (toE_on ha)]
  have lt2 : k.toNat / 2 ^ i % 2 < 2 := Nat.mod_lt _ (by decide)
  generalize k.toNat / 2 ^ i % 2 = c at *
  by_cases h1 : c = 1
  · subst h1
    rw [if_pos (by decide), toE_sum hs ha, hd]; rfl
  · have h0 : c = 0 := by omega
    subst h0
    rw [if_neg (by decide), hd]; rfl

theorem toE_tms {a : Bool × Int × Int} (ha : Pt a) {k : Int} (hk : 0 ≤ k) : ∀ (i : Nat) (o : Bool × Int × Int) (j : Nat), Pt o → toE o = nsm (toE a) j →
    toE (tms a k i o) = nsm (toE a) (j * 2 ^ i + k.toNat % 2 ^ i)
  | 0, o, j, _, h => by
    show toE o = _
    rw [h, Nat.pow_zero, Nat.mod_one, Nat.mul_one, Nat.add_zero]
  | i + 1, o, j, ho, h => by
    rw [tms_succ, toE_tms ha hk i _ _ (stepT_pt ha k i ho) (toE_step ha hk i ho j h)]
    congr 1
    rw [Nat.pow_succ, Nat.mod_mul, Nat.add_mul, Nat.mul_comm (2 ^ i) (k.toNat / 2 ^ i % 2), Nat.mul_comm (2 ^ i) 2, ← Nat.mul_assoc, Nat.add_assoc, Nat.add_comm (k.toNat / 2 ^ i % 2 * 2 ^ i)]
    have : (j + j) = j * 2 := by omega
    rw [this]

theorem toE_times {a : Bool × Int × Int} (ha : Pt a) {k : Int} (hk : w64 k) : toE (timesP a k) = nsm (toE a) k.toNat := by
  have h := toE_tms ha hk.1 64 (true, 0, 0) 0 Pt.none rfl
  have hlt : k.toNat < 2 ^ 64 := by have := hk.2; omega
  rw [Nat.zero_mul, Nat.zero_add, Nat.mod_eq_of_lt hlt] at h
  exact h

theorem toE_none {t : Bool × Int × Int} (h : toE t = none) : t.1 = true := by
  unfold toE at h; split at h
  · assumption
  · cases h

theorem sumP_comm {a b : Bool × Int × Int} (ha : Pt a) (hb : Pt b) : sumP a b = sumP b a :=
  toE_inj (sumP_pt ha hb) (sumP_pt hb ha) (by rw [toE_sum ha hb, toE_sum hb ha, addE_comm goodP (toE_on ha) (toE_on hb)])
theorem sumP_assoc {a b c : Bool × Int × Int} (ha : Pt a) (hb : Pt b) (hc : Pt c) : sumP (sumP a b) c = sumP a (sumP b c) :=
  toE_inj (sumP_pt (sumP_pt ha hb) hc) (sumP_pt ha (sumP_pt hb hc)) (by
    rw [toE_sum (sumP_pt ha hb) hc, toE_sum ha hb, toE_sum ha (sumP_pt hb hc), toE_sum hb hc, addE_assoc goodP (toE_on ha) (toE_on hb) (toE_on hc)])
theorem timesP_add {a : Bool × Int × Int} (ha : Pt a) {k n : Int} (hk : w64 k) (hn : w64 n) (hkn : w64 (k + n)) : sumP (timesP a k) (timesP a n) = timesP a (k + n) :=
  toE_inj (sumP_pt (timesP_pt ha k) (timesP_pt ha n)) (timesP_pt ha _) (by
    rw [toE_sum (timesP_pt ha k) (timesP_pt ha n), toE_times ha hk, toE_times ha hn, toE_times ha hkn, Int.toNat_add hk.1 hn.1, nsm_add goodP (toE_on ha)])
theorem timesP_mul {a : Bool × Int × Int} (ha : Pt a) {k n : Int} (hk : w64 k) (hn : w64 n) : toE (timesP (timesP a k) n) = nsm (toE a) (k.toNat * n.toNat) := by
  rw [toE_times (timesP_pt ha k) hn, toE_times ha hk, nsm_mul goodP (toE_on ha)]
theorem times_order {a : Bool × Int × Int} (ha : Pt a) : (timesP (timesP a 288230376287764481) 4).1 = true := by
  refine toE_none ?_
  rw [timesP_mul ha w64R (by decide)]
  exact order goodP (j := 288230376287764480) rfl (toE_on ha)

end Go.Proofs.Ytibmidoepeghpaa.E.M

