/- PairTimes over E: the program's pairing is linear on both sides. -/
import Derived.Test.YtibmidoepeghpaaPairF
import Derived.Test.YtibmidoepeghpaaBil
import Derived.Test.YtibmidoepeghpaaProg
import Derived.KernelRfl
set_option linter.unusedVariables false
set_option linter.unusedSimpArgs false
set_option maxRecDepth 10000
open Go Go.Proofs.Ytibmidoepeghpaa.E Go.Proofs
namespace Go.Proofs.Ytibmidoepeghpaa.E.M
open Obol (mul2 pow2 conj2 E2 nsm prime_P prime_R IsPrime fpow cv lamQ pr Fm Fa Od finv)
theorem gP : Obol.Good 1152921505151057923 (K 763705535885484439) := goodP
theorem line_cv {tx ty bx bY qx qy : Int} (ht : Pt (false, tx, ty)) (hb : Pt (false, bx, bY)) (hq : Pt (false, qx, qy)) :
    k2 (lineE (false, tx, ty) (false, bx, bY) (false, qx, qy)) = cv (K qx) (K qy) (toE (false, tx, ty)) (toE (false, bx, bY)) := by
  have hd := down_iff ht hb
  have hw : wallP (false, tx, ty) (false, bx, bY) = true ↔ K tx = K bx ∧ K ty + K bY = 0 := by
    have e : wallP (false, tx, ty) (false, bx, bY) = true ↔ tx = bx ∧ (ty + bY) % 1152921505151057923 = 0 := by simp [wallP]
    rw [e]
    constructor
    · rintro ⟨rfl, h⟩
      refine ⟨rfl, ?_⟩
      rw [← K_add, ← K_emod, h, K_0]
    · rintro ⟨h1, h2⟩
      refine ⟨K_inj ht.fin.1 hb.fin.1 h1, ?_⟩
      refine K_inj (ltm _) ⟨Int.le_refl 0, by decide⟩ ?_
      rw [K_emod, K_add, K_0, h2]
  rw [hw] at hd
  show _ = (if K tx = K bx ∧ K ty + K bY = 0 then (1, 0) else (lamQ (K tx) (K ty) (K bx) (K bY) * (K qx + K tx) - K ty, K qy))
  unfold lineE
  by_cases h : downE (false, tx, ty) (false, bx, bY) = 0
  · rw [if_pos h, if_pos (hd.2 h), k2_one]
  · rw [if_neg h, if_neg (fun e => h (hd.1 e))]
    have hi := (K_inv (downE_lt _ _) h).1
    have hl : K (upE (false, tx, ty) (false, bx, bY)) * K (inv 1152921505151057923 (downE (false, tx, ty) (false, bx, bY))) = lamQ (K tx) (K ty) (K bx) (K bY) := by
      unfold lamQ
      by_cases e : ((false, tx, ty) : P3) = (false, bx, bY)
      · cases e
        rw [if_pos rfl]
        have hdn : K (downE (false, tx, ty) (false, tx, ty)) = K ty + K ty := by
          unfold downE; rw [if_pos rfl, K_emod, K_add]
        rw [hdn] at hi
        rw [finv_of hi]
        unfold upE
        rw [if_pos rfl]
        simp only [K_emod, K_add, K_mul, K_1, K_3]
      · have hx : ¬ K tx = K bx := by
          intro hx
          have hx := K_inj ht.fin.1 hb.fin.1 hx
          subst hx
          apply h
          unfold downE
          rw [if_neg e]
          show (tx - tx) % _ = 0
          rw [Int.sub_self]; rfl
        rw [if_neg hx]
        have hdn : K (downE (false, tx, ty) (false, bx, bY)) = K bx - K tx := by
          unfold downE; rw [if_neg e, K_emod, K_sub]
        rw [hdn] at hi
        rw [finv_of hi]
        unfold upE
        rw [if_neg e]
        simp only [K_emod, K_sub]
    refine Prod.ext ?_ rfl
    unfold k2
    simp only [K_emod, K_add, K_mul, K_sub]
    rw [hl]
theorem od_of {t : P3} (h : inP t.1 t.2.1 t.2.2 = true) : Od 144115188143882240 (toE t) := ⟨toE_on (in_pt h).1, (in_pt h).2⟩
theorem turn_fm {r : Nat} (hr : r = 288230376287764481) {ax ay qx qy : Int} (ha : inP false ax ay = true) (hq : inP false qx qy = true) : ∀ (i : Nat), i ≤ 58 → ∀ (f : Int × Int) (t : P3), pr (k2 f) = Fm (K qx) (K qy) (toE (false, ax, ay)) (r / 2 ^ i) → Pt t → toE t = nsm (toE (false, ax, ay)) (r / 2 ^ i) →
    pr (k2 (trn (false, ax, ay) (false, qx, qy) i (f, t)).1) = Fm (K qx) (K qy) (toE (false, ax, ay)) r := by
  intro i
  induction i with
  | zero =>
    intro _ f t h _ _
    rw [Nat.pow_zero, Nat.div_one] at h
    exact h
  | succ i ih =>
    intro hi f t h ht hm
    obtain ⟨pa, ra⟩ := in_pt ha
    obtain ⟨pq, _⟩ := in_pt hq
    have oa := od_of (t := (false, ax, ay)) ha
    have q0 : K qy ≠ 0 := K_nz pq.fin.2.1 (in_y hq)
    have qe := pq.fin.2.2
    have hlow := fun {m} => nsm_lower (toE_on pa) ra (by intro h; cases h) (m := m)
    have hM : r / 2 ^ (i + 1) = r / 2 ^ i / 2 := by rw [Nat.pow_succ, Nat.div_div_eq_div_mul]
    have hbig : 2 ≤ r / 2 ^ i := by
      rw [hr]
      rw [Nat.le_div_iff_mul_le (Nat.pow_pos (by decide))]
      calc 2 * 2 ^ i ≤ 2 * 2 ^ 57 := Nat.mul_le_mul_left 2 (Nat.pow_le_pow_right (by decide) (by omega))
        _ ≤ _ := by decide
    have hsmall : r / 2 ^ i ≤ r := Nat.div_le_self _ _
    rw [hM] at hm h
    have hbit := bitN i
    rw [← hr] at hbit
    show pr (k2 (trn _ _ i (roundE _ _ i (f, t))).1) = _
    have ih := ih (by omega)
    generalize r / 2 ^ i = M at *
    unfold roundE
    have tf : t.1 = false := fin_of (by rw [hm]; exact hlow (by omega) (by omega))
    obtain ⟨t0, tx, ty⟩ := t
    have tf : t0 = false := tf
    subst tf
    have p2 := sumP_pt ht ht
    have e2 : toE (sumP (false, tx, ty) (false, tx, ty)) = nsm (toE (false, ax, ay)) (2 * (M / 2)) := by
      rw [toE_sum ht ht, hm, ← Obol.nsm_add goodP (toE_on pa), Nat.two_mul]
    have l1 := line_cv ht ht pq
    generalize sumP (false, tx, ty) (false, tx, ty) = two at *
    have s1 : pr (k2 (mulE (mulE f f) (lineE (false, tx, ty) (false, tx, ty) (false, qx, qy)))) = Fm (K qx) (K qy) (toE (false, ax, ay)) (2 * (M / 2)) := by
      rw [k2_mul, k2_mul, Obol.pr_mul, Obol.pr_mul, h, l1, hm, Nat.two_mul, Obol.Fm_add gP qe q0 oa]
      rfl
    rw [hbit]
    split
    · rename_i b1
      have b1 : M % 2 = 1 := by omega
      have tf : two.1 = false := fin_of (by rw [e2]; exact hlow (by omega) (by omega))
      obtain ⟨b0, ux, uy⟩ := two
      have tf : b0 = false := tf
      subst tf
      have p3 := sumP_pt p2 pa
      have l2 := line_cv p2 pa pq
      have eM : M = 2 * (M / 2) + 1 := by omega
      refine ih _ _ ?_ p3 ?_
      · rw [k2_mul, Obol.pr_mul, s1, l2, e2]
        conv => rhs; rw [eM]
        rfl
      · rw [toE_sum p2 pa, e2]
        conv => rhs; rw [eM]
        rfl
    · rename_i b1
      have b1 : M % 2 = 0 := by omega
      have eM : 2 * (M / 2) = M := by omega
      rw [eM] at s1 e2
      exact ih _ _ s1 p2 e2
theorem pair_val {a q : P3} (ha : inP a.1 a.2.1 a.2.2 = true) (hq : inP q.1 q.2.1 q.2.2 = true) : k2 (pairE a q) = Fa (toE q) (toE a) 288230376287764481 := by
  obtain ⟨a0, ax, ay⟩ := a
  obtain ⟨q0, qx, qy⟩ := q
  unfold pairE
  rw [if_pos ⟨ha, hq⟩]
  cases a0 with
  | true =>
    rw [if_pos (.inl rfl), k2_one]
    exact (Obol.Fa_none _ _).symm
  | false =>
  cases q0 with
  | true =>
    rw [if_pos (.inr rfl), k2_one]; rfl
  | false =>
  rw [if_neg (by simp)]
  have h := turn_fm rfl ha hq 58 (Nat.le_refl _) (1, 0) (false, ax, ay) (by rw [k2_one, Obol.pr_one]; show _ = mul2 (1, 0) (pr (cv (K qx) (K qy) none (toE (false, ax, ay)))); rw [Obol.cv_none, Obol.pr_one, Obol.mul2_one]) (in_pt ha).1 rfl
  show _ = Fm (K qx) (K qy) (toE (false, ax, ay)) 288230376287764481
  rw [← h, k2_plo4, k2_mul, k2_conj]
  show pow2 (mul2 (conj2 (k2 (trn (false, ax, ay) (false, qx, qy) 58 ((1, 0), false, ax, ay)).1)) (k2 (invE (trn (false, ax, ay) (false, qx, qy) 58 ((1, 0), false, ax, ay)).1))) 4 = _
  generalize (trn (false, ax, ay) (false, qx, qy) 58 ((1, 0), false, ax, ay)).1 = F at *
  show _ = pow2 (pow2 (k2 F) (1152921505151057923 - 1)) 4
  by_cases hF : k2 F = (0, 0)
  · have z : mul2 (conj2 (k2 F)) (k2 (invE F)) = (0, 0) := by
      rw [hF]
      unfold conj2 mul2
      exact Prod.ext (by grind) (by grind)
    rw [z, hF, Obol.pow_zero2 prime_P]
  · rw [Obol.pow_less prime_P hj4 (k2_inv hF)]
theorem in_of {t : P3} (h : Pt t) (hr : nsm (toE t) 288230376287764481 = none) : inP t.1 t.2.1 t.2.2 = true := by
  unfold inP
  rw [Bool.and_eq_true]
  refine ⟨h, ?_⟩
  have e := toE_times h (k := 288230376287764481) (by decide)
  rw [show (288230376287764481 : Int).toNat = 288230376287764481 from rfl, hr] at e
  exact toE_none e
theorem gg_in : inP false 247390119040843104 830327839767444578 = true := by decide +kernel
theorem in_times {k : Int} (hk : w64 k) : inP (timesP GG k).1 (timesP GG k).2.1 (timesP GG k).2.2 = true ∧ Pt (timesP GG k) ∧ toE (timesP GG k) = nsm (toE GG) k.toNat := by
  have hp := timesP_pt gg_pt k
  have he := toE_times gg_pt hk
  refine ⟨in_of hp ?_, hp, he⟩
  rw [he]
  exact ((od_of (t := GG) gg_in).times gP k.toNat).2
theorem low_of {t : P3} (h : inP t.1 t.2.1 t.2.2 = true) : toE t ≠ none → ∀ j, 0 < j → j < 2 * 144115188143882240 + 1 → nsm (toE t) j ≠ none :=
  fun h0 j h1 h2 => nsm_lower (toE_on (in_pt h).1) (in_pt h).2 h0 h1 h2
/-- the pairing's value at multiples of a point -/
theorem pair_mul {j k : Int} (hj : w64 j) (hk : w64 k) : k2 (pairE (timesP GG j) (timesP GG k)) = pow2 (pow2 (k2 (pairE GG GG)) k.toNat) j.toNat := by
  obtain ⟨ia, pa, ea⟩ := in_times hj
  obtain ⟨iq, pq, eq⟩ := in_times hk
  have og := od_of (t := GG) gg_in
  have hgg : k2 (pairE GG GG) = Fa (toE GG) (toE GG) 288230376287764481 := pair_val (a := GG) (q := GG) gg_in gg_in
  rw [pair_val ia iq, ea, eq, hgg]
  have e1 := Obol.Fa_nsm gP (k := 144115188143882240) rfl (by decide) og og (low_of (t := GG) gg_in) k.toNat
  have e1 : Fa (nsm (toE GG) k.toNat) (toE GG) 288230376287764481 = pow2 (Fa (toE GG) (toE GG) 288230376287764481) k.toNat := e1
  rw [← e1]
  exact Obol.Fa_nsmA gP (k := 144115188143882240) rfl og (og.times gP k.toNat) j.toNat
theorem pow_R : pow2 (k2 (pairE GG GG)) 288230376287764481 = (1, 0) := by
  have h := gg_ok
  simp only [Bool.and_eq_true, beq_iff_eq, bne_iff_ne] at h
  have e := congrArg k2 h.2.2.2
  rw [k2_powE _ (by decide), k2_one] at e
  exact e
theorem times_x {j k : Int} (hj : w64 j) (hk : w64 k) : powE (pairE GG GG) (j * k % 288230376287764481) = pairE (timesP GG j) (timesP GG k) := by
  have hm0 : 0 ≤ j * k % 288230376287764481 := Int.emod_nonneg _ (by decide)
  have hm1 : j * k % 288230376287764481 < 288230376287764481 := Int.emod_lt_of_pos _ (by decide)
  refine k2_inj (powE_lt _ _) (pairE_lt _ _) ?_
  rw [k2_powE _ ⟨hm0, by omega⟩, pair_mul hj hk, ← Obol.pow2_mul]
  obtain ⟨a, rfl⟩ := Int.eq_ofNat_of_zero_le hj.1
  obtain ⟨b, rfl⟩ := Int.eq_ofNat_of_zero_le hk.1
  have e : ((a : Int) * b % 288230376287764481).toNat = b * a % 288230376287764481 := by
    rw [← Int.natCast_mul, Nat.mul_comm]
    show (((b * a : Nat) : Int) % ((288230376287764481 : Nat) : Int)).toNat = _
    rw [← Int.natCast_emod]; rfl
  rw [e]
  show _ = pow2 _ (b * a)
  conv => rhs; rw [← Nat.div_add_mod (b * a) 288230376287764481]
  rw [Obol.pow2_add, Obol.pow2_mul, pow_R, Obol.pow2_one, Obol.one_mul2]
theorem times_y {j k : Int} (hj : w64 j) (hk : w64 k) : pairE (timesP GG k) (timesP GG j) = pairE (timesP GG j) (timesP GG k) := by
  refine k2_inj (pairE_lt _ _) (pairE_lt _ _) ?_
  rw [pair_mul hj hk, pair_mul hk hj, ← Obol.pow2_mul, ← Obol.pow2_mul, Nat.mul_comm]
theorem times_s {j k n : Int} (hj : w64 j) (hk : w64 k) (hn : w64 n) : mulE (pairE (timesP GG j) (timesP GG k)) (pairE (timesP GG n) (timesP GG k)) = pairE (sumP (timesP GG j) (timesP GG n)) (timesP GG k) := by
  obtain ⟨ia, pa, ea⟩ := in_times hj
  obtain ⟨iq, pq, eq⟩ := in_times hk
  obtain ⟨ib, pb, eb⟩ := in_times hn
  have oa := od_of ia
  have ob := od_of ib
  have oq := od_of iq
  have es := toE_sum pa pb
  have is := in_of (sumP_pt pa pb) (by rw [es]; exact (oa.add gP ob).2)
  refine k2_inj (mulE_lt _ _) (pairE_lt _ _) ?_
  rw [k2_mul, pair_val ia iq, pair_val ib iq, pair_val is iq, es]
  exact (Obol.Fa_sumA gP (k := 144115188143882240) rfl oa ob oq).symm
set_option maxHeartbeats 4000000 in
theorem obollaw04_PairTimes_c {j k n : Int} (hj : w64 j) (hk : w64 k) (hn : w64 n) : Fn Try.prog 10 [u j, u k, u n] [] (fun r _ => r = bo true) := by
  have eqE := eqE
  have eqPt := eqPt
  have tx := times_x hj hk
  have ty := times_y hj hk
  have ts := times_s hj hk hn
  have cj : Fn Try.prog 22 [pt GG, u j] [] (fun r _ => r = pt (timesP GG j)) := obolref03_Times_c gg_pt hj
  have ck : Fn Try.prog 22 [pt GG, u k] [] (fun r _ => r = pt (timesP GG k)) := obolref03_Times_c gg_pt hk
  have cn : Fn Try.prog 22 [pt GG, u n] [] (fun r _ => r = pt (timesP GG n)) := obolref03_Times_c gg_pt hn
  have pj := timesP_pt gg_pt j
  have pk := timesP_pt gg_pt k
  have pn := timesP_pt gg_pt n
  generalize timesP GG j = A at *
  generalize timesP GG k = Q at *
  generalize timesP GG n = N at *
  obtain ⟨A0, A1, A2⟩ := A
  obtain ⟨Q0, Q1, Q2⟩ := Q
  obtain ⟨N0, N1, N2⟩ := N
  have cg := pair_Pair_c (a0 := false) (q0 := false) (ax := 247390119040843104) (ay := 830327839767444578) (qx := 247390119040843104) (qy := 830327839767444578) (by decide) (by decide) (by decide) (by decide)
  have pg := pairE_lt GG GG
  generalize pairE GG GG = e at *
  obtain ⟨e0, e1⟩ := e
  have cx := pair_Pair_c (a0 := A0) (q0 := Q0) pj.wx.1.w pj.wx.2.w pk.wx.1.w pk.wx.2.w
  have cy := pair_Pair_c (a0 := Q0) (q0 := A0) pk.wx.1.w pk.wx.2.w pj.wx.1.w pj.wx.2.w
  have cz := pair_Pair_c (a0 := N0) (q0 := Q0) pn.wx.1.w pn.wx.2.w pk.wx.1.w pk.wx.2.w
  have cs := obolref03_Sum_c pj pn
  have ps := sumP_pt pj pn
  rw [ty] at cy
  generalize sumP (A0, A1, A2) (N0, N1, N2) = S at *
  obtain ⟨S0, S1, S2⟩ := S
  have cw := pair_Pair_c (a0 := S0) (q0 := Q0) ps.wx.1.w ps.wx.2.w pk.wx.1.w pk.wx.2.w
  rw [← ts] at cw
  have px := pairE_lt (A0, A1, A2) (Q0, Q1, Q2)
  have pz := pairE_lt (N0, N1, N2) (Q0, Q1, Q2)
  have mR : (0:Int) < 288230376287764481 ∧ (288230376287764481:Int) < 18446744073709551616 := ⟨by decide, by decide⟩
  have cm := obolref01_Mul_c mR hj hk
  have hm : w64 (j * k % 288230376287764481) := ⟨Int.emod_nonneg _ (by decide), by have := Int.emod_lt_of_pos (j * k) (b := 288230376287764481) (by decide); omega⟩
  have cp := obolref02_Pow_c (e := j * k % 288230376287764481) pg.1.w pg.2.w hm
  rw [tx] at cp
  clear tx ty ts
  generalize pairE (A0, A1, A2) (Q0, Q1, Q2) = x at *
  generalize pairE (N0, N1, N2) (Q0, Q1, Q2) = z at *
  obtain ⟨x0, x1⟩ := x
  obtain ⟨z0, z1⟩ := z
  have cq := obolref02_Mul_c px.1.w px.2.w pz.1.w pz.2.w
  generalize mulE (x0, x1) (z0, z1) = y at *
  obtain ⟨y0, y1⟩ := y
  refine Fn.enter Try.func10 Try.ntmps10 rfl (h := ?_)
  have tf := tf
  have tfe := tfe
  repeat refine AW.seq ?_
  refine AW.reg ?_
  iterate 1 refine AOL.s1 (h := ?_)
  refine AOL.nil ?_
  refine AW.kq [0, 1, 2] (h := ?_)
  repeat refine AW.seq ?_
  refine AW.reg ?_
  refine AOL.callD rfl (obollaw04_up_c) (by kernel_rfl) rfl rfl (h := ?_)
  iterate 1 refine AOL.s1 (h := ?_)
  refine AOL.nil ?_
  refine AW.kq [0, 1, 2, 7] (h := ?_)
  repeat refine AW.seq ?_
  refine AW.reg ?_
  refine AOL.callD rfl (obolref03_Gen_c) (by kernel_rfl) rfl rfl (h := ?_)
  iterate 2 refine AOL.s1 (h := ?_)
  refine AOL.nil ?_
  refine AW.kq [0, 1, 2, 7, 8] (h := ?_)
  repeat refine AW.seq ?_
  refine AW.reg ?_
  iterate 2 refine AOL.s1 (h := ?_)
  refine AOL.callD rfl (cj) (by kernel_rfl) rfl rfl (h := ?_)
  iterate 2 refine AOL.s1 (h := ?_)
  refine AOL.nil ?_
  refine AW.kq [0, 1, 2, 7, 8, 9] (h := ?_)
  repeat refine AW.seq ?_
  refine AW.reg ?_
  iterate 2 refine AOL.s1 (h := ?_)
  refine AOL.callD rfl (ck) (by kernel_rfl) rfl rfl (h := ?_)
  iterate 2 refine AOL.s1 (h := ?_)
  refine AOL.nil ?_
  refine AW.kq [0, 1, 2, 7, 8, 9, 10] (h := ?_)
  repeat refine AW.seq ?_
  refine AW.reg ?_
  iterate 2 refine AOL.s1 (h := ?_)
  refine AOL.callD rfl (cg) (by kernel_rfl) rfl rfl (h := ?_)
  iterate 2 refine AOL.s1 (h := ?_)
  refine AOL.nil ?_
  refine AW.kq [0, 1, 2, 7, 8, 9, 10, 11] (h := ?_)
  repeat refine AW.seq ?_
  refine AW.reg ?_
  iterate 2 refine AOL.s1 (h := ?_)
  refine AOL.callD rfl (cx) (by kernel_rfl) rfl rfl (h := ?_)
  iterate 2 refine AOL.s1 (h := ?_)
  refine AOL.nil ?_
  refine AW.kq [0, 1, 2, 7, 8, 9, 10, 11, 12] (h := ?_)
  repeat refine AW.seq ?_
  refine AW.reg ?_
  iterate 2 refine AOL.s1 (h := ?_)
  refine AOL.callD rfl (cm) (by kernel_rfl) rfl rfl (h := ?_)
  iterate 1 refine AOL.s1 (h := ?_)
  refine AOL.nil ?_
  refine AW.kq [2, 7, 8, 9, 10, 11, 12, 13] (h := ?_)
  repeat refine AW.seq ?_
  refine AW.drw 8 [1224] (by kernel_rfl) (h := ?_)
  iterate 3 refine ADL.dm 1 (h := ?_)
  refine ADL.call rfl (cn) (by kernel_rfl) rfl rfl (h := ?_)
  refine ADL.call rfl (cs) (by kernel_rfl) rfl rfl (h := ?_)
  iterate 1 refine ADL.dm 1 (h := ?_)
  refine ADL.call rfl (cw) (by kernel_rfl) rfl rfl (h := ?_)
  iterate 1 refine ADL.dm 1 (h := ?_)
  refine ADL.done hmix rfl rfl (hT := ?_)
  iterate 1 refine AOL.s1 (h := ?_)
  refine AOL.nil ?_
  refine AW.kq [2, 7, 8, 9, 10, 11, 12, 13, 14] (h := ?_)
  repeat refine AW.seq ?_
  refine AW.drw 24 [] (by kernel_rfl) (h := ?_)
  iterate 5 refine ADL.dm 1 (h := ?_)
  refine ADL.call rfl (cp) (by kernel_rfl) rfl rfl (h := ?_)
  iterate 5 refine ADL.dm 1 (h := ?_)
  refine ADL.call rfl (cy) (by kernel_rfl) rfl rfl (h := ?_)
  iterate 8 refine ADL.dm 1 (h := ?_)
  refine ADL.call rfl (cn) (by kernel_rfl) rfl rfl (h := ?_)
  iterate 1 refine ADL.dm 1 (h := ?_)
  refine ADL.call rfl (cz) (by kernel_rfl) rfl rfl (h := ?_)
  refine ADL.call rfl (cq) (by kernel_rfl) rfl rfl (h := ?_)
  refine ADL.done hmix rfl rfl (hT := ?_)
  iterate 3 refine AOL.s1 (h := ?_)
  refine AOL.nil ?_
  refine AW.kq [6] (h := ?_)
  repeat refine AW.seq ?_
  refine AW.ret ?_
  refine ⟨_, [], rfl, HOk.nil _, ?_⟩
  rfl
end Go.Proofs.Ytibmidoepeghpaa.E.M

