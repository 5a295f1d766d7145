/- The document's pairing is the program's: what walls bring is real, and falls out. -/
import Derived.Test.YtibmidoepeghpaaPairE
import Derived.Test.YtibmidoepeghpaaGrpB
import Derived.Test.YtibmidoepeghpaaQuad
import Derived.Test.YtibmidoepeghpaaProg
import Derived.KernelRfl
set_option linter.unusedVariables false
set_option linter.unusedSimpArgs false
set_option maxRecDepth 10000
open Go Go.Proofs.Ytibmidoepeghpaa.E Go.Proofs
namespace Go.Proofs.Ytibmidoepeghpaa.E.M
open Obol (mul2 pow2 conj2 E2 nsm prime_P prime_R IsPrime fpow)
theorem hj4 : 1152921505151057923 = 4 * 288230376287764480 + 3 := rfl
def k2 (a : Int × Int) : E2 1152921505151057923 := (K a.1, K a.2)
theorem k2_mul (a b : Int × Int) : k2 (mulE a b) = mul2 (k2 a) (k2 b) := by
  unfold k2 mulE mul2
  simp only [K_emod, K_sub, K_add, K_mul]
theorem k2_one : k2 (1, 0) = (1, 0) := by unfold k2; rw [K_1, K_0]
theorem k2_inj {a b : Int × Int} (ha : lt a.1 ∧ lt a.2) (hb : lt b.1 ∧ lt b.2) (h : k2 a = k2 b) : a = b := by
  have h1 := congrArg Prod.fst h
  have h2 := congrArg Prod.snd h
  exact Prod.ext (K_inj ha.1 hb.1 h1) (K_inj ha.2 hb.2 h2)
theorem k2_pw (a : Int × Int) {e : Int} (he : 0 ≤ e) : ∀ (n : Nat) (o : Int × Int), k2 o = pow2 (k2 a) (e / 2 ^ n).toNat → k2 (pw a e n o) = pow2 (k2 a) e.toNat
  | 0, o, ho => by rw [Int.pow_zero, Int.ediv_one] at ho; exact ho
  | n + 1, o, ho => by
    show k2 (pw a e n (stepE a e n o)) = _
    refine k2_pw a he n _ ?_
    have t0 : 0 ≤ e / 2 ^ (n + 1) := Int.ediv_nonneg he (Int.le_of_lt (Int.pow_pos (by decide)))
    have hb := bits_at e n
    generalize e / 2 ^ (n + 1) = t at *
    obtain ⟨t2, t21⟩ := toNat_two t0
    unfold stepE
    split
    · rename_i b1
      rw [hb, b1, t21, k2_mul, k2_mul, ho, Obol.pow2_succ, Nat.two_mul, Obol.pow2_add]
    · rename_i b1
      rw [hb, show e / 2 ^ n % 2 = 0 by omega, Int.add_zero, t2, k2_mul, ho, Nat.two_mul, Obol.pow2_add]
theorem k2_powE (a : Int × Int) {e : Int} (he : w64 e) : k2 (powE a e) = pow2 (k2 a) e.toNat := by
  unfold powE
  refine k2_pw a he.1 64 (1, 0) ?_
  rw [show e / 2 ^ 64 = 0 from Int.ediv_eq_zero_of_lt he.1 he.2, k2_one]; rfl
theorem plo4 (a : Int × Int) : plo 64 a 4 (1, 0) = mulE (1, 0) (mulE (mulE a a) (mulE a a)) := by
  show plo (60 + 1 + 1 + 1 + 1) a 4 (1, 0) = _
  rw [plo, if_pos (by decide), if_neg (by decide), show (4 : Int) / 2 = 2 from rfl, plo, if_pos (by decide), if_neg (by decide), show (2 : Int) / 2 = 1 from rfl, plo, if_pos (by decide), if_pos (by decide),
    show (1 : Int) / 2 = 0 from rfl, plo_zero]
theorem k2_plo4 (a : Int × Int) : k2 (plo 64 a 4 (1, 0)) = pow2 (k2 a) 4 := by
  rw [plo4, k2_mul, k2_mul, k2_mul, k2_one, Obol.one_mul2]
  show _ = pow2 (k2 a) (2 + 2)
  rw [Obol.pow2_add]
  show _ = mul2 (mul2 (mul2 (1, 0) (k2 a)) (k2 a)) (mul2 (mul2 (1, 0) (k2 a)) (k2 a))
  rw [Obol.one_mul2]
theorem k2_conj (a : Int × Int) : k2 (conjE a) = conj2 (k2 a) := by
  unfold k2 conjE conj2
  simp only [K_emod, K_sub, K_0]
  exact Prod.ext rfl (by grind)
theorem noI : ∀ x : FP, x * x + 1 ≠ 0 := goodP.noI
theorem k2_inv {a : Int × Int} (h : k2 a ≠ (0, 0)) : mul2 (k2 a) (k2 (invE a)) = (1, 0) := by
  have hn := Obol.norm_ne prime_P noI h
  obtain ⟨x, y⟩ := a
  have hN : lt ((x * x % 1152921505151057923 + y * y % 1152921505151057923) % 1152921505151057923) := ltm _
  have kN : K ((x * x % 1152921505151057923 + y * y % 1152921505151057923) % 1152921505151057923) = K x * K x + K y * K y := by
    rw [K_emod, K_add, K_emod, K_emod, K_mul, K_mul]
  have hz : (x * x % 1152921505151057923 + y * y % 1152921505151057923) % 1152921505151057923 ≠ 0 := by
    intro e
    rw [e, K_0] at kN
    exact hn kN.symm
  have hi := (K_inv hN hz).1
  have e : normE (x, y) = inv 1152921505151057923 ((x * x % 1152921505151057923 + y * y % 1152921505151057923) % 1152921505151057923) := rfl
  rw [kN, ← e] at hi
  have e2 : k2 (invE (x, y)) = (K x * K (normE (x, y)), (0 - K y) * K (normE (x, y))) := by
    unfold k2 invE conjE
    simp only [K_emod, K_mul, K_sub, K_0]
  rw [e2]
  clear e e2 kN hz hN hn h
  generalize K (normE (x, y)) = v at *
  unfold k2 mul2
  exact Prod.ext (by grind) (by grind)
/-- the same, but for what is real -/
def Rl (f g : Int × Int) : Prop := ∃ c : FP, c ≠ 0 ∧ k2 f = mul2 (c, 0) (k2 g)
theorem Rl.refl (f : Int × Int) : Rl f f := ⟨1, goodP.one_ne, (Obol.one_mul2 _).symm⟩
theorem Rl.mul {f g f' g' : Int × Int} (h : Rl f g) (h' : Rl f' g') : Rl (mulE f f') (mulE g g') := by
  obtain ⟨c, hc, e⟩ := h
  obtain ⟨c', hc', e'⟩ := h'
  refine ⟨c * c', Obol.fin_mul_ne_zero prime_P hc hc', ?_⟩
  rw [k2_mul, k2_mul, e, e', Obol.mul2_swap]
  congr 1
  exact Prod.ext (by simp only [mul2]; grind) (by simp only [mul2]; grind)
theorem K_nz {w : Int} (h : lt w) (h0 : w ≠ 0) : K w ≠ 0 := fun e => h0 ((K_zero_iff h).1 e)
theorem Rl.over {f g : Int × Int} {w : Int} (h : Rl f g) (hw : lt w) (h0 : w ≠ 0) : Rl (overE f (w, 0)) g := by
  obtain ⟨c, hc, e⟩ := h
  have kw := K_nz hw h0
  have e1 : k2 (w, 0) = (K w, 0) := by unfold k2; rw [K_0]
  unfold overE
  refine ⟨fpow (fpow (K w) (1152921505151057923 : Int).toNat) (1152921505151057922 : Int).toNat * fpow (K w) (1152921505151057921 : Int).toNat * c, ?_, ?_⟩
  · refine Obol.fin_mul_ne_zero prime_P (Obol.fin_mul_ne_zero prime_P ?_ ?_) hc
    · exact Obol.fpow_ne prime_P (Obol.fpow_ne prime_P kw _) _
    · exact Obol.fpow_ne prime_P kw _
  · rw [k2_mul, k2_mul, k2_powE _ (by decide), k2_powE _ (by decide), k2_powE _ (by decide), e1, Obol.pow2_real, Obol.pow2_real, Obol.pow2_real, e]
    generalize fpow (fpow (K w) (1152921505151057923 : Int).toNat) (1152921505151057922 : Int).toNat = p
    generalize fpow (K w) (1152921505151057921 : Int).toNat = q
    exact Prod.ext (by simp only [mul2]; grind) (by simp only [mul2]; grind)
theorem Rl.step {f g l l' : Int × Int} {w : Int} (h : Rl f g) (h' : Rl l l') (hw : lt w) (h0 : w ≠ 0) : Rl (rstepE f l (w, 0)) (mulE g l') := (h.mul h').over hw h0
theorem wall_alg {x y X Y z : FP} (h1 : Y * Y = X * X * X + X) (h2 : y * y = x * x * x + x) (hz : y * z = 1) (h : - (x + X) = 0) : Y * z * (Y * z) + 1 = 0 := by grind
theorem wall_ok {t : P3} {qx qy : Int} (ht : Pt t) (hq : Pt (false, qx, qy)) (h0 : qy ≠ 0) : ∃ w, lt w ∧ w ≠ 0 ∧ wallE t (false, qx, qy) = (w, 0) := by
  obtain ⟨t0, tx, ty⟩ := t
  cases t0 with
  | true => exact ⟨1, ⟨by decide, by decide⟩, by decide, rfl⟩
  | false =>
    refine ⟨-((qx + tx) % 1152921505151057923) % 1152921505151057923, ltm _, fun e => ?_, rfl⟩
    obtain ⟨z, hz⟩ := Obol.fin_inv prime_P (K_nz hq.fin.2.1 h0)
    have e := congrArg K e
    rw [K_emod, K_neg, K_emod, K_add, K_0] at e
    exact noI _ (wall_alg ht.fin.2.2 hq.fin.2.2 hz e)
theorem down_iff {tx ty bx bY : Int} (ht : Pt (false, tx, ty)) (hb : Pt (false, bx, bY)) : wallP (false, tx, ty) (false, bx, bY) = true ↔ downE (false, tx, ty) (false, bx, bY) = 0 := by
  obtain ⟨t1, t2, t3⟩ := ht.fin
  obtain ⟨b1, b2, b3⟩ := hb.fin
  have e : wallP (false, tx, ty) (false, bx, bY) = true ↔ tx = bx ∧ (ty + bY) % 1152921505151057923 = 0 := by simp [wallP]
  rw [e]
  unfold downE
  split
  · rename_i h
    cases h
    simp
  · rename_i h
    constructor
    · rintro ⟨rfl, _⟩
      show (tx - tx) % _ = 0
      rw [Int.sub_self]; rfl
    · intro h'
      have h' : (bx - tx) % 1152921505151057923 = 0 := h'
      have k := congrArg K h'
      rw [K_emod, K_sub, K_0] at k
      have hx : tx = bx := K_inj t1 b1 (by grind)
      subst hx
      refine ⟨rfl, ?_⟩
      rcases Obol.y_cases prime_P t3 b3 with h2 | h2
      · exact absurd (by rw [K_inj t2 b2 h2]) h
      · refine K_inj (ltm _) ⟨Int.le_refl 0, by decide⟩ ?_
        rw [K_emod, K_add, K_0, h2]
theorem line_ok {tx ty bx bY qx qy : Int} (ht : Pt (false, tx, ty)) (hb : Pt (false, bx, bY)) (hq : Pt (false, qx, qy)) (h0 : qy ≠ 0) : Rl (rlineE (false, tx, ty) (false, bx, bY) (false, qx, qy)) (lineE (false, tx, ty) (false, bx, bY) (false, qx, qy)) := by
  have hd := down_iff ht hb
  unfold rlineE lineE
  by_cases h : downE (false, tx, ty) (false, bx, bY) = 0
  · rw [if_pos h, if_pos (hd.2 h)]
    obtain ⟨w, hw, hw0, e⟩ := wall_ok ht hq h0
    rw [e]
    refine ⟨K w, K_nz hw hw0, ?_⟩
    rw [k2_one, Obol.mul2_one]
    unfold k2; rw [K_0]
  · rw [if_neg h, if_neg (fun e => h (hd.1 e))]
    refine ⟨1, goodP.one_ne, ?_⟩
    rw [Obol.one_mul2]
    refine Prod.ext ?_ rfl
    unfold k2
    simp only [K_emod, K_add, K_mul, K_neg, K_sub]
    have hl : K (lam (false, tx, ty) (false, bx, bY)) = K (upE (false, tx, ty) (false, bx, bY)) * K (inv 1152921505151057923 (downE (false, tx, ty) (false, bx, bY))) := by
      unfold downE at h
      unfold lam upE downE
      by_cases e : ((false, tx, ty) : P3) = (false, bx, bY)
      · cases e
        rw [if_pos rfl, if_pos rfl, if_pos rfl]
        simp only [K_emod, K_add, K_mul, K_1, K_3]
      · rw [if_neg e] at h
        rw [if_neg e, if_neg e]
        have hx : ¬ tx = bx := by
          rintro rfl
          exact h (by show (tx - tx) % _ = 0; rw [Int.sub_self]; rfl)
        rw [if_neg hx]
        simp only [K_emod, K_sub, K_mul]
    rw [hl]
    grind
/-- a point of R times none: no lower multiple is none -/
theorem nsm_gcd {a : Obol.EPt 1152921505151057923} (ha : Obol.onE a) : ∀ (m n : Nat), nsm a m = none → nsm a n = none → nsm a (Nat.gcd m n) = none := by
  intro m n
  induction m, n using Nat.gcd.induction with
  | H0 n => intro _ h; rw [Nat.gcd_zero_left]; exact h
  | H1 m n hm ih =>
    intro h1 h2
    rw [Nat.gcd_rec]
    refine ih ?_ h1
    have e := Nat.div_add_mod n m
    rw [← e, Obol.nsm_add goodP ha, Obol.nsm_mul goodP ha, h1] at h2
    have z : ∀ k, nsm (none : Obol.EPt 1152921505151057923) k = none := fun k => by
      induction k with
      | zero => rfl
      | succ k ih => rw [Obol.nsm_succ, ih]; rfl
    rw [z] at h2
    exact h2
theorem nsm_lower {a : Obol.EPt 1152921505151057923} (ha : Obol.onE a) (hr : nsm a 288230376287764481 = none) (h0 : a ≠ none) {m : Nat} (h1 : 0 < m) (h2 : m < 288230376287764481) : nsm a m ≠ none := by
  intro h
  have g := nsm_gcd ha m 288230376287764481 h hr
  have hc : Nat.gcd m 288230376287764481 = 1 := by
    rcases prime_R.2 _ (Nat.gcd_dvd_right m 288230376287764481) with e | e
    · exact e
    · have := Nat.gcd_le_left 288230376287764481 h1
      omega
  rw [hc] at g
  exact h0 g
theorem in_pt {b : Bool} {x y : Int} (h : inP b x y = true) : Pt (b, x, y) ∧ nsm (toE (b, x, y)) 288230376287764481 = none := by
  have hp := inP_pt h
  refine ⟨hp, ?_⟩
  unfold inP at h
  rw [Bool.and_eq_true] at h
  have e := toE_times hp (k := 288230376287764481) (by decide)
  rw [show (288230376287764481 : Int).toNat = 288230376287764481 from rfl] at e
  rw [← e]
  unfold toE
  rw [if_pos h.2]
theorem in_y {x y : Int} (h : inP false x y = true) : y ≠ 0 := by
  rintro rfl
  obtain ⟨hp, hr⟩ := in_pt h
  refine nsm_lower (toE_on hp) hr (by intro h; cases h) (m := 2) (by decide) (by decide) ?_
  show Obol.addE (Obol.addE none (toE (false, x, 0))) (toE (false, x, 0)) = none
  rw [show Obol.addE none (toE (false, x, 0)) = toE (false, x, 0) from rfl, ← toE_sum hp hp]
  rw [show sumP (false, x, 0) (false, x, 0) = (true, 0, 0) from by rw [sumP_fin, if_pos ⟨rfl, by decide⟩]]
  rfl
theorem fin_of {t : P3} (h : toE t ≠ none) : t.1 = false := by
  obtain ⟨b, x, y⟩ := t
  cases b with
  | true => exact absurd rfl h
  | false => rfl
theorem bitN (i : Nat) : (288230376287764481 : Int) / 2 ^ i % 2 = ((288230376287764481 / 2 ^ i % 2 : Nat) : Int) := by
  rw [Int.natCast_emod, Int.natCast_ediv, Int.natCast_pow]; rfl
theorem turn_ok {ax ay qx qy : Int} (ha : inP false ax ay = true) (hq : inP false qx qy = true) : ∀ (i : Nat), i ≤ 58 → ∀ (f g : Int × Int) (t : P3), Rl f g → Pt t → toE t = nsm (toE (false, ax, ay)) (288230376287764481 / 2 ^ i) →
    Rl (rtrn (false, ax, ay) (false, qx, qy) i (f, t)).1 (trn (false, ax, ay) (false, qx, qy) i (g, t)).1
  | 0, _, f, g, t, h, _, _ => h
  | i + 1, hi, f, g, t, h, ht, hm => by
    obtain ⟨pa, ra⟩ := in_pt ha
    obtain ⟨pq, _⟩ := in_pt hq
    have q0 := in_y hq
    have hlow := fun {m} => nsm_lower (toE_on pa) ra (by intro h; cases h) (m := m)
    have hM : 288230376287764481 / 2 ^ (i + 1) = 288230376287764481 / 2 ^ i / 2 := by rw [Nat.pow_succ, Nat.div_div_eq_div_mul]
    have hbig : 2 ≤ 288230376287764481 / 2 ^ i := by
      rw [Nat.le_div_iff_mul_le (Nat.pow_pos (by decide))]
      calc 2 * 2 ^ i ≤ 2 * 2 ^ 57 := Nat.mul_le_mul_left 2 (Nat.pow_le_pow_right (by decide) (by omega))
        _ ≤ _ := by decide
    have hsmall : 288230376287764481 / 2 ^ i ≤ 288230376287764481 := Nat.div_le_self _ _
    rw [hM] at hm
    have hbit := bitN i
    show Rl (rtrn _ _ i (rroundE _ _ i (f, t))).1 (trn _ _ i (roundE _ _ i (g, t))).1
    have ih := turn_ok ha hq i (by omega)
    generalize 288230376287764481 / 2 ^ i = M at *
    unfold rroundE roundE
    have tf : t.1 = false := fin_of (by rw [hm]; exact hlow (by omega) (by omega))
    obtain ⟨t0, tx, ty⟩ := t
    have tf : t0 = false := tf
    subst tf
    have p2 := sumP_pt ht ht
    have e2 : toE (sumP (false, tx, ty) (false, tx, ty)) = nsm (toE (false, ax, ay)) (2 * (M / 2)) := by
      rw [toE_sum ht ht, hm, ← Obol.nsm_add goodP (toE_on pa), Nat.two_mul]
    have l1 := line_ok ht ht pq q0
    generalize sumP (false, tx, ty) (false, tx, ty) = two at *
    obtain ⟨w, hw, hw0, ew⟩ := wall_ok p2 pq q0
    have s1 := (h.mul h).step l1 hw hw0
    rw [← ew] at s1
    clear ew
    rw [hbit]
    split
    · rename_i b1
      have b1 : M % 2 = 1 := by omega
      have tf : two.1 = false := fin_of (by rw [e2]; exact hlow (by omega) (by omega))
      obtain ⟨b0, ux, uy⟩ := two
      have tf : b0 = false := tf
      subst tf
      have p3 := sumP_pt p2 pa
      have l2 := line_ok p2 pa pq q0
      obtain ⟨v, hv, hv0, ev⟩ := wall_ok p3 pq q0
      have s2 := s1.step l2 hv hv0
      rw [← ev] at s2
      refine ih _ _ _ s2 p3 ?_
      rw [toE_sum p2 pa, e2]
      rw [show M = 2 * (M / 2) + 1 by omega]
      rw [show (2 * (M / 2) + 1) / 2 = M / 2 by omega]
      rfl
    · rename_i b1
      have b1 : M % 2 = 0 := by omega
      refine ih _ _ _ s1 p2 ?_
      rw [e2, show 2 * (M / 2) = M by omega]
theorem rpair_eq (a q : P3) : rpairE a q = pairE a q := by
  obtain ⟨a0, ax, ay⟩ := a
  obtain ⟨q0, qx, qy⟩ := q
  unfold rpairE pairE
  split
  · rename_i h
    split
    · rfl
    · rename_i h1
      obtain ⟨ha, hq⟩ := h
      have e1 : a0 = false := by cases a0 <;> simp_all
      have e2 : q0 = false := by cases q0 <;> simp_all
      subst e1 e2
      have r := turn_ok ha hq 58 (Nat.le_refl _) (1, 0) (1, 0) (false, ax, ay) (.refl _) (in_pt ha).1 rfl
      refine k2_inj (powE_lt _ _) (plo_lt _ _ _ _ one_lt) ?_
      rw [k2_powE _ (by decide), k2_powE _ (by decide), k2_plo4, k2_mul, k2_conj]
      rw [show (1152921505151057922 : Int).toNat = 1152921505151057923 - 1 from rfl, show (4 : Int).toNat = 4 from rfl]
      obtain ⟨c, hc, e⟩ := r
      rw [e, Obol.pow_real prime_P hc]
      show _ = pow2 (mul2 (conj2 (k2 (trn (false, ax, ay) (false, qx, qy) 58 ((1, 0), false, ax, ay)).1)) (k2 (invE (trn (false, ax, ay) (false, qx, qy) 58 ((1, 0), false, ax, ay)).1))) 4
      generalize (trn (false, ax, ay) (false, qx, qy) 58 ((1, 0), false, ax, ay)).1 = F at *
      by_cases hF : k2 F = (0, 0)
      · rw [hF, Obol.pow_zero2 prime_P]
        congr 1
        unfold conj2 mul2
        exact Prod.ext (by grind) (by grind)
      · rw [Obol.pow_less prime_P hj4 (k2_inv hF)]
  · rfl
end Go.Proofs.Ytibmidoepeghpaa.E.M

