/- Texts joined: ZVZls, ZVZld, ZVCri, ZVCup, ZVCla, ZVGai. -/
import Derived.Test.YtngphcdhdllnnaaGreatZW11
import Derived.Test.YtngphcdhdllnnaaGreatZW12
import Derived.Test.YtngphcdhdllnnaaGreatProg
import Derived.KernelRfl
import Derived.Test.YtngphcdhdllnnaaGreatZW10
section
/- What any values say by which the system of a move holds: the plain law. -/
set_option linter.unusedVariables false
set_option linter.unusedSimpArgs false
set_option maxRecDepth 10000
open Go Go.Proofs.YtngphcdhdllnnaaGreat.E Go.Proofs
namespace Go.Proofs.YtngphcdhdllnnaaGreat.E.M
theorem Vl.i {m : Mk} {v x : Int} (h : Vl m v x) : isM m.vals v = v := isM_of h.a h.b
theorem frS_rows : ∀ (V : List Int) (m : Mk), (frS V m).rows = m.rows
  | [], _ => rfl
  | v :: V, m => by simp only [frS]; rw [frS_rows V]; rfl
theorem Sat.pth {m : Mk} {V W : List Int} (h : Sat (pthS V m []).1 W) : Sat m W := by
  rw [pthS_eq] at h
  intro r hr
  exact h r (by show r ∈ (frS V m).rows; rw [frS_rows]; exact hr)
theorem Sat.lin1 {m : Mk} (gm : Good m) {W : List Int} (w : VG W) {c : Int} (h : Sat (linM m [⟨0, c⟩]) W) : Sat m W ∧ gV W m.vals.length = c % 288230376287764481 := by
  obtain ⟨h1, h2⟩ := h.lin w
  have h0 := gm.ne
  rw [ownT_id (V := m.vals) (by intro t ht; simp only [List.mem_singleton] at ht; subst ht; exact ⟨Int.le_refl _, by show (0:Int) < _; omega⟩)] at h2
  simp only [M.lin, w.one, Int.mul_one, Int.add_zero] at h2
  exact ⟨h1, h2⟩
theorem Sat.lin0 {m : Mk} {W : List Int} (w : VG W) (h : Sat (linM m []) W) : Sat m W ∧ gV W m.vals.length = 0 := by
  obtain ⟨h1, h2⟩ := h.lin w
  simp only [ownT, List.map_nil, M.lin, Int.zero_emod] at h2
  exact ⟨h1, h2⟩
theorem Sat.sum2 {m : Mk} {W : List Int} (w : VG W) {k a b x y : Int} (fa : Vl m a x) (fb : Vl m b y) (h : Sat (linM m (sumS 0 k [a, b])) W) : Sat m W ∧ gV W m.vals.length = (gV W a + k * gV W b) % 288230376287764481 := by
  obtain ⟨h1, h2⟩ := h.lin w
  rw [ownT_id (V := m.vals) (by
    intro t ht
    simp only [sumS, List.mem_cons, List.not_mem_nil, or_false] at ht
    rcases ht with rfl | rfl
    · exact ⟨fa.a, fa.b⟩
    · exact ⟨fb.a, fb.b⟩)] at h2
  refine ⟨h1, h2.trans ?_⟩
  simp [sumS, M.lin]
theorem Sat.sum3 {m : Mk} {W : List Int} (w : VG W) {a b c x y z : Int} (fa : Vl m a x) (fb : Vl m b y) (fc : Vl m c z) (h : Sat (linM m (sumS 0 1 [a, b, c])) W) : Sat m W ∧ gV W m.vals.length = (gV W a + (gV W b + gV W c)) % 288230376287764481 := by
  obtain ⟨h1, h2⟩ := h.lin w
  rw [ownT_id (V := m.vals) (by
    intro t ht
    simp only [sumS, List.mem_cons, List.not_mem_nil, or_false] at ht
    rcases ht with rfl | rfl | rfl
    · exact ⟨fa.a, fa.b⟩
    · exact ⟨fb.a, fb.b⟩
    · exact ⟨fc.a, fc.b⟩)] at h2
  refine ⟨h1, h2.trans ?_⟩
  simp [sumS, M.lin]
theorem Sat.mul {m : Mk} {W : List Int} (w : VG W) {a b x y : Int} (fa : Vl m a x) (fb : Vl m b y) (h : Sat (mulM m a b) W) : Sat m W ∧ gV W m.vals.length = gV W a * gV W b % 288230376287764481 := by
  obtain ⟨h1, h2⟩ := Sat.prod w (a := one1 (isMk m a)) (b := one1 (isMk m b)) h
  rw [lin_1, lin_1, show isMk m a = a from fa.i, show isMk m b = b from fb.i] at h2
  exact ⟨h1, h2⟩
theorem Sat.clm {W : List Int} (w : VG W) : ∀ (P B : List Int) (m : Mk) (h : Int), Good m → B.length = P.length → (∀ v ∈ P, 0 ≤ v ∧ v < m.vals.length) → (∀ v ∈ B, 0 ≤ v ∧ v < m.vals.length) → 0 ≤ h → h < m.vals.length → Sat (clmS B P m h).1 W →
    Sat m W ∧ ((∀ b ∈ B.map (gV W), b = 0 ∨ b = 1) → gV W (clmS B P m h).2 = climbH (P.map (gV W)) (bsum 0 (B.map (gV W))) (gV W h))
  | [], B, m, h, g, e, _, _, _, _, s => by
    cases B with
    | nil => exact ⟨s, fun _ => rfl⟩
    | cons b B => simp at e
  | p :: P, [], m, h, g, e, _, _, _, _, s => by simp at e
  | p :: P, b :: B, m, h, g, e, hP, hB, h0, h1, s => by
    have rp := hP p (by simp)
    have rb := hB b (by simp)
    obtain ⟨x1, l1⟩ := cho_law g b p h
    have n1 := l1.len
    obtain ⟨x2, l2⟩ := cho_law l1.good b h p
    have n2 := l2.len
    obtain ⟨X3, l3, y0, y1, _⟩ := two_law l2.good m.vals.length (choM m b p h).vals.length
    have n3 := l3.len
    simp only [List.length_singleton] at n1 n2
    have s' : Sat (clmS B P (twoM (choM (choM m b p h) b h p) m.vals.length (choM m b p h).vals.length) (twoR (choM (choM m b p h) b h p) m.vals.length (choM m b p h).vals.length)).1 W := s
    obtain ⟨s3, e3⟩ := Sat.clm w P B _ _ l3.good (by simpa using e) (fun v hv => by have := hP v (List.mem_cons_of_mem _ hv); omega) (fun v hv => by have := hB v (List.mem_cons_of_mem _ hv); omega) y0 y1 s'
    obtain ⟨s2, e2⟩ := s3.two w l2.good
    obtain ⟨s1, c0, c1⟩ := s2.cho w
    obtain ⟨s0, d0, d1⟩ := s1.cho w
    rw [isM_of (V := (choM (choM m b p h) b h p).vals) (a := (m.vals.length : Int)) (by omega) (by omega), isM_of (V := (choM (choM m b p h) b h p).vals) (a := ((choM m b p h).vals.length : Int)) (by omega) (by omega)] at e2
    rw [isM_of (V := (choM m b p h).vals) (a := b) rb.1 (by omega), isM_of (V := (choM m b p h).vals) (a := p) rp.1 (by omega)] at c0
    rw [isM_of (V := (choM m b p h).vals) (a := b) rb.1 (by omega), isM_of (V := (choM m b p h).vals) (a := h) h0 (by omega)] at c1
    rw [isM_of rb.1 rb.2, isM_of h0 h1] at d0
    rw [isM_of rb.1 rb.2, isM_of rp.1 rp.2] at d1
    refine ⟨s0, fun hb => ?_⟩
    replace e3 := e3 (fun x hx => hb x (by simp only [List.map_cons]; exact List.mem_cons_of_mem _ hx))
    show gV W (clmS B P _ _).2 = _
    rw [e3, e2]
    simp only [List.map_cons, climbH, bsum, bsum_s, Int.pow_zero, Int.one_mul]
    have hbb := hb (gV W b) (by simp)
    rcases hbb with hz | hz
    · rw [hz, c0 hz, d0 hz, show (0 + 2 * bsum 0 (B.map (gV W))) / 2 = bsum 0 (B.map (gV W)) by omega, if_neg (by omega)]
    · rw [hz, c1 hz, d1 hz, show (1 + 2 * bsum 0 (B.map (gV W))) / 2 = bsum 0 (B.map (gV W)) by omega, if_pos (by omega)]
theorem bitN_of {n : Nat} (h : n ≤ 16) : bitN (n : Int) = n := by
  have h : bitN (n : Int) = (n : Int).toNat := if_neg (by omega)
  rw [h]; omega
theorem bitl_len : ∀ (n : Nat) (x : Int), (bitl x n).length = n
  | 0, _ => rfl
  | n + 1, x => by simp only [bitl, List.length_cons, bitl_len n]
set_option maxHeartbeats 16000000 in
theorem Sat.inp {m : Mk} (g : Good m) {k v o rh a ro si en an d zr zs ze za : Int} {p : List Int} (hk : 0 ≤ k ∧ k < 288230376287764481) (hv : 0 ≤ v ∧ v < 288230376287764481) (ho : 0 ≤ o ∧ o < 288230376287764481) (hrh : 0 ≤ rh ∧ rh < 288230376287764481)
    (hp : ∀ x ∈ p, 0 ≤ x ∧ x < 288230376287764481) (lp : p.length ≤ 16) (ha : 0 ≤ a ∧ a < 2 ^ p.length) (hd : d = p.length) (fr : Vl m ro zr) (fs : Vl m si zs) (fe : Vl m en ze) (fa : Vl m an za) {W : List Int} (w : VG W) (s_ : Sat (inpM m k v o rh a p d ro si en an) W) :
    Sat m W ∧ ∃ K V O H A : Int, ∃ P : List Int, K = gV W m.vals.length ∧ V = gV W ((m.vals.length + 1 : Nat) : Int) ∧ O = gV W ((m.vals.length + 2 : Nat) : Int) ∧ H = gV W ((m.vals.length + 3 : Nat) : Int) ∧ A = gV W ((m.vals.length + 4 : Nat) : Int) ∧ P = (ixS p (m.vals.length + 5)).map (gV W) ∧
      O = twoH K 2 ∧ (V = 0 ∨ climbH P A (mrkH (V, O, H)) = gV W ro) ∧ manyH [twoH K 1, H, A] = gV W en ∧ twoH (twoH K 1) (gV W si) = gV W an ∧ 0 ≤ A ∧ A < 2 ^ p.length := by
  subst hd
  have hP : (2:Int) ^ p.length ≤ 2 ^ 16 := by exact_mod_cast Nat.pow_le_pow_right (n := 2) (by decide) lp
  have hA : 0 ≤ a ∧ a < 288230376287764481 := by omega
  have g_q1 := g
  obtain ⟨q1, h_q1⟩ : ∃ x, x = freshM m k := ⟨_, rfl⟩
  obtain ⟨v0, h_v0⟩ : ∃ x : Int, x = (m.vals.length : Int) := ⟨_, rfl⟩
  obtain ⟨l_, f0⟩ := fresh_lw g hk
  rw [← h_q1] at l_
  rw [← h_q1, ← h_v0] at f0
  replace fr := fr.mv l_
  replace fs := fs.mv l_
  replace fe := fe.mv l_
  replace fa := fa.mv l_
  have g := l_.good
  clear l_
  have g_q2 := g
  obtain ⟨q2, h_q2⟩ : ∃ x, x = freshM q1 v := ⟨_, rfl⟩
  obtain ⟨v1, h_v1⟩ : ∃ x : Int, x = (q1.vals.length : Int) := ⟨_, rfl⟩
  obtain ⟨l_, f1⟩ := fresh_lw g hv
  rw [← h_q2] at l_
  rw [← h_q2, ← h_v1] at f1
  replace fr := fr.mv l_
  replace fs := fs.mv l_
  replace fe := fe.mv l_
  replace fa := fa.mv l_
  replace f0 := f0.mv l_
  have g := l_.good
  clear l_
  have g_q3 := g
  obtain ⟨q3, h_q3⟩ : ∃ x, x = freshM q2 o := ⟨_, rfl⟩
  obtain ⟨v2, h_v2⟩ : ∃ x : Int, x = (q2.vals.length : Int) := ⟨_, rfl⟩
  obtain ⟨l_, f2⟩ := fresh_lw g ho
  rw [← h_q3] at l_
  rw [← h_q3, ← h_v2] at f2
  replace fr := fr.mv l_
  replace fs := fs.mv l_
  replace fe := fe.mv l_
  replace fa := fa.mv l_
  replace f0 := f0.mv l_
  replace f1 := f1.mv l_
  have g := l_.good
  clear l_
  have g_q4 := g
  obtain ⟨q4, h_q4⟩ : ∃ x, x = freshM q3 rh := ⟨_, rfl⟩
  obtain ⟨v3, h_v3⟩ : ∃ x : Int, x = (q3.vals.length : Int) := ⟨_, rfl⟩
  obtain ⟨l_, f3⟩ := fresh_lw g hrh
  rw [← h_q4] at l_
  rw [← h_q4, ← h_v3] at f3
  replace fr := fr.mv l_
  replace fs := fs.mv l_
  replace fe := fe.mv l_
  replace fa := fa.mv l_
  replace f0 := f0.mv l_
  replace f1 := f1.mv l_
  replace f2 := f2.mv l_
  have g := l_.good
  clear l_
  have g_q5 := g
  obtain ⟨q5, h_q5⟩ : ∃ x, x = freshM q4 a := ⟨_, rfl⟩
  obtain ⟨v4, h_v4⟩ : ∃ x : Int, x = (q4.vals.length : Int) := ⟨_, rfl⟩
  obtain ⟨l_, f4⟩ := fresh_lw g hA
  rw [← h_q5] at l_
  rw [← h_q5, ← h_v4] at f4
  replace fr := fr.mv l_
  replace fs := fs.mv l_
  replace fe := fe.mv l_
  replace fa := fa.mv l_
  replace f0 := f0.mv l_
  replace f1 := f1.mv l_
  replace f2 := f2.mv l_
  replace f3 := f3.mv l_
  have g := l_.good
  clear l_
  have g_q6 := g
  obtain ⟨q6, h_q6⟩ : ∃ x, x = (pthS p q5 []).1 := ⟨_, rfl⟩
  obtain ⟨P, h_P⟩ : ∃ x, x = (pthS p q5 []).2 := ⟨_, rfl⟩
  obtain ⟨l_, fP⟩ := pth_lw g hp
  rw [← h_q6] at l_
  rw [← h_q6, ← h_P] at fP
  replace fr := fr.mv l_
  replace fs := fs.mv l_
  replace fe := fe.mv l_
  replace fa := fa.mv l_
  replace f0 := f0.mv l_
  replace f1 := f1.mv l_
  replace f2 := f2.mv l_
  replace f3 := f3.mv l_
  replace f4 := f4.mv l_
  have g := l_.good
  clear l_
  have g_q7 := g
  obtain ⟨q7, h_q7⟩ : ∃ x, x = linM q6 [⟨0, 1⟩] := ⟨_, rfl⟩
  obtain ⟨k1, h_k1⟩ : ∃ x : Int, x = (q6.vals.length : Int) := ⟨_, rfl⟩
  obtain ⟨l_, f5⟩ := lin1_lw g 1
  rw [← h_q7] at l_
  rw [← h_q7, ← h_k1] at f5
  replace fr := fr.mv l_
  replace fs := fs.mv l_
  replace fe := fe.mv l_
  replace fa := fa.mv l_
  replace f0 := f0.mv l_
  replace f1 := f1.mv l_
  replace f2 := f2.mv l_
  replace f3 := f3.mv l_
  replace f4 := f4.mv l_
  replace fP := fP.mv l_
  have g := l_.good
  clear l_
  rw [show (1:Int) % 288230376287764481 = 1 from rfl] at f5
  have z_q8_a := f0
  have z_q8_b := f5
  have g_q8 := g
  obtain ⟨q8, h_q8⟩ : ∃ x, x = twoM q7 v0 k1 := ⟨_, rfl⟩
  obtain ⟨hi, h_hi⟩ : ∃ x : Int, x = twoR q7 v0 k1 := ⟨_, rfl⟩
  obtain ⟨l_, f6⟩ := two_lw g f0 f5
  rw [← h_q8] at l_
  rw [← h_q8, ← h_hi] at f6
  replace fr := fr.mv l_
  replace fs := fs.mv l_
  replace fe := fe.mv l_
  replace fa := fa.mv l_
  replace f0 := f0.mv l_
  replace f1 := f1.mv l_
  replace f2 := f2.mv l_
  replace f3 := f3.mv l_
  replace f4 := f4.mv l_
  replace fP := fP.mv l_
  replace f5 := f5.mv l_
  have g := l_.good
  clear l_
  have g_q9 := g
  obtain ⟨q9, h_q9⟩ : ∃ x, x = linM q8 [⟨0, 2⟩] := ⟨_, rfl⟩
  obtain ⟨k2, h_k2⟩ : ∃ x : Int, x = (q8.vals.length : Int) := ⟨_, rfl⟩
  obtain ⟨l_, f7⟩ := lin1_lw g 2
  rw [← h_q9] at l_
  rw [← h_q9, ← h_k2] at f7
  replace fr := fr.mv l_
  replace fs := fs.mv l_
  replace fe := fe.mv l_
  replace fa := fa.mv l_
  replace f0 := f0.mv l_
  replace f1 := f1.mv l_
  replace f2 := f2.mv l_
  replace f3 := f3.mv l_
  replace f4 := f4.mv l_
  replace fP := fP.mv l_
  replace f5 := f5.mv l_
  replace f6 := f6.mv l_
  have g := l_.good
  clear l_
  rw [show (2:Int) % 288230376287764481 = 2 from rfl] at f7
  have z_q10_a := f0
  have z_q10_b := f7
  have g_q10 := g
  obtain ⟨q10, h_q10⟩ : ∃ x, x = twoM q9 v0 k2 := ⟨_, rfl⟩
  obtain ⟨ow, h_ow⟩ : ∃ x : Int, x = twoR q9 v0 k2 := ⟨_, rfl⟩
  obtain ⟨l_, f8⟩ := two_lw g f0 f7
  rw [← h_q10] at l_
  rw [← h_q10, ← h_ow] at f8
  replace fr := fr.mv l_
  replace fs := fs.mv l_
  replace fe := fe.mv l_
  replace fa := fa.mv l_
  replace f0 := f0.mv l_
  replace f1 := f1.mv l_
  replace f2 := f2.mv l_
  replace f3 := f3.mv l_
  replace f4 := f4.mv l_
  replace fP := fP.mv l_
  replace f5 := f5.mv l_
  replace f6 := f6.mv l_
  replace f7 := f7.mv l_
  have g := l_.good
  clear l_
  have z_q11_a := f8
  have z_q11_b := f2
  have g_q11 := g
  obtain ⟨q11, h_q11⟩ : ∃ x, x = sameM q10 ow v2 := ⟨_, rfl⟩
  have l_ := same_lw g f8 f2
  rw [← h_q11] at l_
  replace fr := fr.mv l_
  replace fs := fs.mv l_
  replace fe := fe.mv l_
  replace fa := fa.mv l_
  replace f0 := f0.mv l_
  replace f1 := f1.mv l_
  replace f2 := f2.mv l_
  replace f3 := f3.mv l_
  replace f4 := f4.mv l_
  replace fP := fP.mv l_
  replace f5 := f5.mv l_
  replace f6 := f6.mv l_
  replace f7 := f7.mv l_
  replace f8 := f8.mv l_
  have g := l_.good
  clear l_
  have z_q12_a := f1
  have z_q12_b := f2
  have z_q12_c := f3
  have g_q12 := g
  obtain ⟨q12, h_q12⟩ : ∃ x, x = (manE q11 [v1, v2, v3]).1 := ⟨_, rfl⟩
  obtain ⟨h12, h_h12⟩ : ∃ x : Int, x = (manE q11 [v1, v2, v3]).2 := ⟨_, rfl⟩
  obtain ⟨l_, f9⟩ := many_lw g (Vs.cons f1 (Vs.cons f2 (Vs.cons f3 Vs.nil)))
  rw [← h_q12] at l_
  rw [← h_q12, ← h_h12] at f9
  replace fr := fr.mv l_
  replace fs := fs.mv l_
  replace fe := fe.mv l_
  replace fa := fa.mv l_
  replace f0 := f0.mv l_
  replace f1 := f1.mv l_
  replace f2 := f2.mv l_
  replace f3 := f3.mv l_
  replace f4 := f4.mv l_
  replace fP := fP.mv l_
  replace f5 := f5.mv l_
  replace f6 := f6.mv l_
  replace f7 := f7.mv l_
  replace f8 := f8.mv l_
  have g := l_.good
  clear l_
  have z_q13_a := f4
  have g_q13 := g
  obtain ⟨q13, h_q13⟩ : ∃ x, x = bitM q12 v4 p.length := ⟨_, rfl⟩
  obtain ⟨B, h_B⟩ : ∃ x, x = (bitE q12 v4 p.length).2.1 := ⟨_, rfl⟩
  obtain ⟨l_, fB⟩ := bit_lw g f4 (n := p.length) (by omega)
  rw [← h_q13] at l_
  rw [← h_q13, ← h_B] at fB
  replace fr := fr.mv l_
  replace fs := fs.mv l_
  replace fe := fe.mv l_
  replace fa := fa.mv l_
  replace f0 := f0.mv l_
  replace f1 := f1.mv l_
  replace f2 := f2.mv l_
  replace f3 := f3.mv l_
  replace f4 := f4.mv l_
  replace fP := fP.mv l_
  replace f5 := f5.mv l_
  replace f6 := f6.mv l_
  replace f7 := f7.mv l_
  replace f8 := f8.mv l_
  replace f9 := f9.mv l_
  have g := l_.good
  clear l_
  have z_q14_a := fP
  have z_q14_b := fB
  have z_q14_c := f9
  have g_q14 := g
  obtain ⟨q14, h_q14⟩ : ∃ x, x = (clmS B P q13 h12).1 := ⟨_, rfl⟩
  obtain ⟨h14, h_h14⟩ : ∃ x : Int, x = (clmS B P q13 h12).2 := ⟨_, rfl⟩
  obtain ⟨l_, f10⟩ := clm_lw P p B q13 h12 a _ g fP fB f9
  rw [← h_q14] at l_
  rw [← h_q14, ← h_h14] at f10
  replace fr := fr.mv l_
  replace fs := fs.mv l_
  replace fe := fe.mv l_
  replace fa := fa.mv l_
  replace f0 := f0.mv l_
  replace f1 := f1.mv l_
  replace f2 := f2.mv l_
  replace f3 := f3.mv l_
  replace f4 := f4.mv l_
  replace fP := fP.mv l_
  replace f5 := f5.mv l_
  replace f6 := f6.mv l_
  replace f7 := f7.mv l_
  replace f8 := f8.mv l_
  replace f9 := f9.mv l_
  replace fB := fB.mv l_
  have g := l_.good
  clear l_
  have z_q15_a := f10
  have z_q15_b := fr
  have g_q15 := g
  obtain ⟨q15, h_q15⟩ : ∃ x, x = linM q14 (sumS 0 288230376287764480 [h14, ro]) := ⟨_, rfl⟩
  obtain ⟨k3, h_k3⟩ : ∃ x : Int, x = (q14.vals.length : Int) := ⟨_, rfl⟩
  obtain ⟨l_, f11⟩ := sum2_lw g 288230376287764480 f10 fr
  rw [← h_q15] at l_
  rw [← h_q15, ← h_k3] at f11
  replace fr := fr.mv l_
  replace fs := fs.mv l_
  replace fe := fe.mv l_
  replace fa := fa.mv l_
  replace f0 := f0.mv l_
  replace f1 := f1.mv l_
  replace f2 := f2.mv l_
  replace f3 := f3.mv l_
  replace f4 := f4.mv l_
  replace fP := fP.mv l_
  replace f5 := f5.mv l_
  replace f6 := f6.mv l_
  replace f7 := f7.mv l_
  replace f8 := f8.mv l_
  replace f9 := f9.mv l_
  replace fB := fB.mv l_
  replace f10 := f10.mv l_
  have g := l_.good
  clear l_
  have z_q16_a := f1
  have z_q16_b := f11
  have g_q16 := g
  obtain ⟨q16, h_q16⟩ : ∃ x, x = mulM q15 v1 k3 := ⟨_, rfl⟩
  obtain ⟨off, h_off⟩ : ∃ x : Int, x = (q15.vals.length : Int) := ⟨_, rfl⟩
  obtain ⟨l_, f12⟩ := mul_lw g f1 f11
  rw [← h_q16] at l_
  rw [← h_q16, ← h_off] at f12
  replace fr := fr.mv l_
  replace fs := fs.mv l_
  replace fe := fe.mv l_
  replace fa := fa.mv l_
  replace f0 := f0.mv l_
  replace f1 := f1.mv l_
  replace f2 := f2.mv l_
  replace f3 := f3.mv l_
  replace f4 := f4.mv l_
  replace fP := fP.mv l_
  replace f5 := f5.mv l_
  replace f6 := f6.mv l_
  replace f7 := f7.mv l_
  replace f8 := f8.mv l_
  replace f9 := f9.mv l_
  replace fB := fB.mv l_
  replace f10 := f10.mv l_
  replace f11 := f11.mv l_
  have g := l_.good
  clear l_
  have g_q17 := g
  obtain ⟨q17, h_q17⟩ : ∃ x, x = linM q16 [] := ⟨_, rfl⟩
  obtain ⟨k4, h_k4⟩ : ∃ x : Int, x = (q16.vals.length : Int) := ⟨_, rfl⟩
  obtain ⟨l_, f13⟩ := lin0_lw g
  rw [← h_q17] at l_
  rw [← h_q17, ← h_k4] at f13
  replace fr := fr.mv l_
  replace fs := fs.mv l_
  replace fe := fe.mv l_
  replace fa := fa.mv l_
  replace f0 := f0.mv l_
  replace f1 := f1.mv l_
  replace f2 := f2.mv l_
  replace f3 := f3.mv l_
  replace f4 := f4.mv l_
  replace fP := fP.mv l_
  replace f5 := f5.mv l_
  replace f6 := f6.mv l_
  replace f7 := f7.mv l_
  replace f8 := f8.mv l_
  replace f9 := f9.mv l_
  replace fB := fB.mv l_
  replace f10 := f10.mv l_
  replace f11 := f11.mv l_
  replace f12 := f12.mv l_
  have g := l_.good
  clear l_
  have z_q18_a := f12
  have z_q18_b := f13
  have g_q18 := g
  obtain ⟨q18, h_q18⟩ : ∃ x, x = sameM q17 off k4 := ⟨_, rfl⟩
  have l_ := same_lw g f12 f13
  rw [← h_q18] at l_
  replace fr := fr.mv l_
  replace fs := fs.mv l_
  replace fe := fe.mv l_
  replace fa := fa.mv l_
  replace f0 := f0.mv l_
  replace f1 := f1.mv l_
  replace f2 := f2.mv l_
  replace f3 := f3.mv l_
  replace f4 := f4.mv l_
  replace fP := fP.mv l_
  replace f5 := f5.mv l_
  replace f6 := f6.mv l_
  replace f7 := f7.mv l_
  replace f8 := f8.mv l_
  replace f9 := f9.mv l_
  replace fB := fB.mv l_
  replace f10 := f10.mv l_
  replace f11 := f11.mv l_
  replace f12 := f12.mv l_
  replace f13 := f13.mv l_
  have g := l_.good
  clear l_
  have z_q19_a := f6
  have z_q19_b := f3
  have z_q19_c := f4
  have g_q19 := g
  obtain ⟨q19, h_q19⟩ : ∃ x, x = (manE q18 [hi, v3, v4]).1 := ⟨_, rfl⟩
  obtain ⟨h19, h_h19⟩ : ∃ x : Int, x = (manE q18 [hi, v3, v4]).2 := ⟨_, rfl⟩
  obtain ⟨l_, f14⟩ := many_lw g (Vs.cons f6 (Vs.cons f3 (Vs.cons f4 Vs.nil)))
  rw [← h_q19] at l_
  rw [← h_q19, ← h_h19] at f14
  replace fr := fr.mv l_
  replace fs := fs.mv l_
  replace fe := fe.mv l_
  replace fa := fa.mv l_
  replace f0 := f0.mv l_
  replace f1 := f1.mv l_
  replace f2 := f2.mv l_
  replace f3 := f3.mv l_
  replace f4 := f4.mv l_
  replace fP := fP.mv l_
  replace f5 := f5.mv l_
  replace f6 := f6.mv l_
  replace f7 := f7.mv l_
  replace f8 := f8.mv l_
  replace f9 := f9.mv l_
  replace fB := fB.mv l_
  replace f10 := f10.mv l_
  replace f11 := f11.mv l_
  replace f12 := f12.mv l_
  replace f13 := f13.mv l_
  have g := l_.good
  clear l_
  have z_q20_a := f14
  have z_q20_b := fe
  have g_q20 := g
  obtain ⟨q20, h_q20⟩ : ∃ x, x = sameM q19 h19 en := ⟨_, rfl⟩
  have l_ := same_lw g f14 fe
  rw [← h_q20] at l_
  replace fr := fr.mv l_
  replace fs := fs.mv l_
  replace fe := fe.mv l_
  replace fa := fa.mv l_
  replace f0 := f0.mv l_
  replace f1 := f1.mv l_
  replace f2 := f2.mv l_
  replace f3 := f3.mv l_
  replace f4 := f4.mv l_
  replace fP := fP.mv l_
  replace f5 := f5.mv l_
  replace f6 := f6.mv l_
  replace f7 := f7.mv l_
  replace f8 := f8.mv l_
  replace f9 := f9.mv l_
  replace fB := fB.mv l_
  replace f10 := f10.mv l_
  replace f11 := f11.mv l_
  replace f12 := f12.mv l_
  replace f13 := f13.mv l_
  replace f14 := f14.mv l_
  have g := l_.good
  clear l_
  have z_q21_a := f6
  have z_q21_b := fs
  have g_q21 := g
  obtain ⟨q21, h_q21⟩ : ∃ x, x = twoM q20 hi si := ⟨_, rfl⟩
  obtain ⟨an1, h_an1⟩ : ∃ x : Int, x = twoR q20 hi si := ⟨_, rfl⟩
  obtain ⟨l_, f15⟩ := two_lw g f6 fs
  rw [← h_q21] at l_
  rw [← h_q21, ← h_an1] at f15
  replace fr := fr.mv l_
  replace fs := fs.mv l_
  replace fe := fe.mv l_
  replace fa := fa.mv l_
  replace f0 := f0.mv l_
  replace f1 := f1.mv l_
  replace f2 := f2.mv l_
  replace f3 := f3.mv l_
  replace f4 := f4.mv l_
  replace fP := fP.mv l_
  replace f5 := f5.mv l_
  replace f6 := f6.mv l_
  replace f7 := f7.mv l_
  replace f8 := f8.mv l_
  replace f9 := f9.mv l_
  replace fB := fB.mv l_
  replace f10 := f10.mv l_
  replace f11 := f11.mv l_
  replace f12 := f12.mv l_
  replace f13 := f13.mv l_
  replace f14 := f14.mv l_
  have g := l_.good
  clear l_
  have z_q22_a := f15
  have z_q22_b := fa
  have g_q22 := g
  obtain ⟨q22, h_q22⟩ : ∃ x, x = sameM q21 an1 an := ⟨_, rfl⟩
  have l_ := same_lw g f15 fa
  rw [← h_q22] at l_
  replace fr := fr.mv l_
  replace fs := fs.mv l_
  replace fe := fe.mv l_
  replace fa := fa.mv l_
  replace f0 := f0.mv l_
  replace f1 := f1.mv l_
  replace f2 := f2.mv l_
  replace f3 := f3.mv l_
  replace f4 := f4.mv l_
  replace fP := fP.mv l_
  replace f5 := f5.mv l_
  replace f6 := f6.mv l_
  replace f7 := f7.mv l_
  replace f8 := f8.mv l_
  replace f9 := f9.mv l_
  replace fB := fB.mv l_
  replace f10 := f10.mv l_
  replace f11 := f11.mv l_
  replace f12 := f12.mv l_
  replace f13 := f13.mv l_
  replace f14 := f14.mv l_
  replace f15 := f15.mv l_
  have g := l_.good
  clear l_
  have eI : inpM m k v o rh a p p.length ro si en an = q22 := by
    clear s_
    subst h_q1 h_v0 h_q2 h_v1 h_q3 h_v2 h_q4 h_v3 h_q5 h_v4 h_q6 h_P h_q7 h_k1 h_q8 h_hi h_q9 h_k2 h_q10 h_ow h_q11 h_q12 h_h12 h_q13 h_B h_q14 h_h14 h_q15 h_k3 h_q16 h_off h_q17 h_k4 h_q18 h_q19 h_h19 h_q20 h_q21 h_an1 h_q22
    rfl
  rw [eI] at s_
  have hPx : P = ixS p (m.vals.length + 5) := by
    rw [h_P, pthS_eq, h_q5, h_q4, h_q3, h_q2, h_q1]
    simp only [fresh_len, List.nil_append]
  have lP : P.length = p.length := by rw [hPx, ixS_len]
  have lB : B.length = P.length := by
    have := congrArg List.length z_q14_b.c
    rw [List.length_map, bitl_len] at this
    rw [this, lP]
  rw [h_q22] at s_
  obtain ⟨s_, e_q22⟩ := Sat.same w s_
  rw [z_q22_a.i, z_q22_b.i] at e_q22
  rw [h_q21] at s_
  obtain ⟨s_, e_q21⟩ := Sat.two w g_q21 s_
  rw [z_q21_a.i, z_q21_b.i, ← h_an1] at e_q21
  rw [h_q20] at s_
  obtain ⟨s_, e_q20⟩ := Sat.same w s_
  rw [z_q20_a.i, z_q20_b.i] at e_q20
  rw [h_q19] at s_
  obtain ⟨s_, e_q19⟩ := Sat.many w g_q19 (Vs.cons z_q19_a (Vs.cons z_q19_b (Vs.cons z_q19_c Vs.nil))).a s_
  rw [← h_h19] at e_q19
  simp only [List.map_cons, List.map_nil] at e_q19
  rw [h_q18] at s_
  obtain ⟨s_, e_q18⟩ := Sat.same w s_
  rw [z_q18_a.i, z_q18_b.i] at e_q18
  rw [h_q17] at s_
  obtain ⟨s_, e_q17⟩ := Sat.lin0 w s_
  rw [← h_k4] at e_q17
  rw [h_q16] at s_
  obtain ⟨s_, e_q16⟩ := Sat.mul w z_q16_a z_q16_b s_
  rw [← h_off] at e_q16
  rw [h_q15] at s_
  obtain ⟨s_, e_q15⟩ := Sat.sum2 w z_q15_a z_q15_b s_
  rw [← h_k3] at e_q15
  rw [h_q14] at s_
  obtain ⟨s_, e_q14⟩ := Sat.clm w P B _ _ g_q14 lB z_q14_a.a z_q14_b.a z_q14_c.a z_q14_c.b s_
  rw [← h_h14] at e_q14
  rw [h_q13] at s_
  obtain ⟨s_, lb_q13, bb_q13, e_q13⟩ := Sat.bit w g_q13 s_
  rw [z_q13_a.i, ← h_B] at e_q13
  rw [← h_B] at lb_q13 bb_q13
  rw [h_q12] at s_
  obtain ⟨s_, e_q12⟩ := Sat.many w g_q12 (Vs.cons z_q12_a (Vs.cons z_q12_b (Vs.cons z_q12_c Vs.nil))).a s_
  rw [← h_h12] at e_q12
  simp only [List.map_cons, List.map_nil] at e_q12
  rw [h_q11] at s_
  obtain ⟨s_, e_q11⟩ := Sat.same w s_
  rw [z_q11_a.i, z_q11_b.i] at e_q11
  rw [h_q10] at s_
  obtain ⟨s_, e_q10⟩ := Sat.two w g_q10 s_
  rw [z_q10_a.i, z_q10_b.i, ← h_ow] at e_q10
  rw [h_q9] at s_
  obtain ⟨s_, e_q9⟩ := Sat.lin1 g_q9 w s_
  rw [← h_k2] at e_q9
  rw [h_q8] at s_
  obtain ⟨s_, e_q8⟩ := Sat.two w g_q8 s_
  rw [z_q8_a.i, z_q8_b.i, ← h_hi] at e_q8
  rw [h_q7] at s_
  obtain ⟨s_, e_q7⟩ := Sat.lin1 g_q7 w s_
  rw [← h_k1] at e_q7
  rw [h_q6] at s_
  have s_ := Sat.pth s_
  rw [h_q5] at s_
  rw [Sat.fresh] at s_
  rw [h_q4] at s_
  rw [Sat.fresh] at s_
  rw [h_q3] at s_
  rw [Sat.fresh] at s_
  rw [h_q2] at s_
  rw [Sat.fresh] at s_
  rw [h_q1] at s_
  rw [Sat.fresh] at s_
  have u1 : (q1.vals.length : Int) = ((m.vals.length + 1 : Nat) : Int) := by rw [h_q1, fresh_len]
  have u2 : (q2.vals.length : Int) = ((m.vals.length + 2 : Nat) : Int) := by rw [h_q2, fresh_len, h_q1, fresh_len]
  have u3 : (q3.vals.length : Int) = ((m.vals.length + 3 : Nat) : Int) := by rw [h_q3, fresh_len, h_q2, fresh_len, h_q1, fresh_len]
  have u4 : (q4.vals.length : Int) = ((m.vals.length + 4 : Nat) : Int) := by rw [h_q4, fresh_len, h_q3, fresh_len, h_q2, fresh_len, h_q1, fresh_len]
  rw [show (1:Int) % 288230376287764481 = 1 from rfl] at e_q7
  rw [show (2:Int) % 288230376287764481 = 2 from rfl] at e_q9
  have lb := bsum_lt bb_q13
  rw [List.length_map, lb_q13, bitN_of lp, e_q13] at lb
  replace e_q14 := e_q14 bb_q13
  rw [e_q13] at e_q14
  refine ⟨s_, gV W v0, gV W v1, gV W v2, gV W v3, gV W v4, P.map (gV W), by rw [h_v0], by rw [h_v1, u1], by rw [h_v2, u2], by rw [h_v3, u3], by rw [h_v4, u4], by rw [hPx], ?_, ?_, ?_, ?_, lb.1, lb.2⟩
  · rw [← e_q11, e_q10, e_q9]
  · have c1 : gV W v1 * gV W k3 % 288230376287764481 = 0 := by rw [← e_q16, e_q18, e_q17]
    have b1 := w.lt v1
    rcases (mul_zero b1.1 b1.2).1 c1 with h | h
    · exact .inl h
    · right
      rw [e_q15, Int.emod_emod, e_q14, e_q12] at h
      have hc : 0 ≤ climbH (P.map (gV W)) (gV W v4) (manyH [gV W v1, gV W v2, gV W v3]) ∧ climbH (P.map (gV W)) (gV W v4) (manyH [gV W v1, gV W v2, gV W v3]) < 288230376287764481 := climbH_l (manyH_lt _) _ _
      have hr := w.lt ro
      show climbH (P.map (gV W)) (gV W v4) (manyH [gV W v1, gV W v2, gV W v3]) = gV W ro
      generalize climbH (P.map (gV W)) (gV W v4) (manyH [gV W v1, gV W v2, gV W v3]) = C at *
      omega
  · rw [← e_q20, e_q19, e_q8, e_q7]
  · rw [← e_q22, e_q21, e_q8, e_q7]
set_option maxHeartbeats 4000000 in
theorem Sat.out {m : Mk} (g : Good m) {v o rh e ze : Int} (hv : 0 ≤ v ∧ v < 288230376287764481) (ho : 0 ≤ o ∧ o < 288230376287764481) (hrh : 0 ≤ rh ∧ rh < 288230376287764481) (fe : Vl m e ze) {W : List Int} (w : VG W) (s_ : Sat (outM m (v, o, rh) e) W) :
    Sat m W ∧ gV W m.vals.length < 4294967296 ∧ mrkH (gV W m.vals.length, gV W ((m.vals.length + 1 : Nat) : Int), gV W ((m.vals.length + 2 : Nat) : Int)) = gV W e := by
  have g_q1 := g
  obtain ⟨q1, h_q1⟩ : ∃ x, x = freshM m v := ⟨_, rfl⟩
  obtain ⟨v1, h_v1⟩ : ∃ x : Int, x = (m.vals.length : Int) := ⟨_, rfl⟩
  obtain ⟨l_, f1⟩ := fresh_lw g hv
  rw [← h_q1] at l_
  rw [← h_q1, ← h_v1] at f1
  replace fe := fe.mv l_
  have g := l_.good
  clear l_
  have g_q2 := g
  obtain ⟨q2, h_q2⟩ : ∃ x, x = freshM q1 o := ⟨_, rfl⟩
  obtain ⟨v2, h_v2⟩ : ∃ x : Int, x = (q1.vals.length : Int) := ⟨_, rfl⟩
  obtain ⟨l_, f2⟩ := fresh_lw g ho
  rw [← h_q2] at l_
  rw [← h_q2, ← h_v2] at f2
  replace fe := fe.mv l_
  replace f1 := f1.mv l_
  have g := l_.good
  clear l_
  have g_q3 := g
  obtain ⟨q3, h_q3⟩ : ∃ x, x = freshM q2 rh := ⟨_, rfl⟩
  obtain ⟨v3, h_v3⟩ : ∃ x : Int, x = (q2.vals.length : Int) := ⟨_, rfl⟩
  obtain ⟨l_, f3⟩ := fresh_lw g hrh
  rw [← h_q3] at l_
  rw [← h_q3, ← h_v3] at f3
  replace fe := fe.mv l_
  replace f1 := f1.mv l_
  replace f2 := f2.mv l_
  have g := l_.good
  clear l_
  have z_q4_a := f1
  have g_q4 := g
  obtain ⟨q4, h_q4⟩ : ∃ x, x = bitM q3 v1 32 := ⟨_, rfl⟩
  obtain ⟨B, h_B⟩ : ∃ x, x = (bitE q3 v1 32).2.1 := ⟨_, rfl⟩
  obtain ⟨l_, fB⟩ := bit_lw g f1 (n := 32) (by decide)
  rw [show ((32:Nat):Int) = 32 from rfl] at l_ fB
  rw [← h_q4] at l_
  rw [← h_q4, ← h_B] at fB
  replace fe := fe.mv l_
  replace f1 := f1.mv l_
  replace f2 := f2.mv l_
  replace f3 := f3.mv l_
  have g := l_.good
  clear l_
  have z_q5_a := f1
  have z_q5_b := f2
  have z_q5_c := f3
  have g_q5 := g
  obtain ⟨q5, h_q5⟩ : ∃ x, x = (manE q4 [v1, v2, v3]).1 := ⟨_, rfl⟩
  obtain ⟨h5, h_h5⟩ : ∃ x : Int, x = (manE q4 [v1, v2, v3]).2 := ⟨_, rfl⟩
  obtain ⟨l_, f4⟩ := many_lw g (Vs.cons f1 (Vs.cons f2 (Vs.cons f3 Vs.nil)))
  rw [← h_q5] at l_
  rw [← h_q5, ← h_h5] at f4
  replace fe := fe.mv l_
  replace f1 := f1.mv l_
  replace f2 := f2.mv l_
  replace f3 := f3.mv l_
  replace fB := fB.mv l_
  have g := l_.good
  clear l_
  have z_q6_a := f4
  have z_q6_b := fe
  have g_q6 := g
  obtain ⟨q6, h_q6⟩ : ∃ x, x = sameM q5 h5 e := ⟨_, rfl⟩
  have l_ := same_lw g f4 fe
  rw [← h_q6] at l_
  replace fe := fe.mv l_
  replace f1 := f1.mv l_
  replace f2 := f2.mv l_
  replace f3 := f3.mv l_
  replace fB := fB.mv l_
  replace f4 := f4.mv l_
  have g := l_.good
  clear l_
  have eI : outM m (v, o, rh) e = q6 := by
    clear s_
    subst h_q1 h_v1 h_q2 h_v2 h_q3 h_v3 h_q4 h_q5 h_h5 h_q6
    unfold outM
    dsimp only
  rw [eI] at s_
  rw [h_q6] at s_
  obtain ⟨s_, e_q6⟩ := Sat.same w s_
  rw [z_q6_a.i, z_q6_b.i] at e_q6
  rw [h_q5] at s_
  obtain ⟨s_, e_q5⟩ := Sat.many w g_q5 (Vs.cons z_q5_a (Vs.cons z_q5_b (Vs.cons z_q5_c Vs.nil))).a s_
  rw [← h_h5] at e_q5
  simp only [List.map_cons, List.map_nil] at e_q5
  rw [h_q4] at s_
  obtain ⟨s_, lb_q4, bb_q4, e_q4⟩ := Sat.bit w g_q4 s_
  rw [z_q4_a.i, ← h_B] at e_q4
  rw [← h_B] at lb_q4 bb_q4
  rw [h_q3] at s_
  rw [Sat.fresh] at s_
  rw [h_q2] at s_
  rw [Sat.fresh] at s_
  rw [h_q1] at s_
  rw [Sat.fresh] at s_
  have u1 : (q1.vals.length : Int) = ((m.vals.length + 1 : Nat) : Int) := by rw [h_q1, fresh_len]
  have u2 : (q2.vals.length : Int) = ((m.vals.length + 2 : Nat) : Int) := by rw [h_q2, fresh_len, h_q1, fresh_len]
  have lb := bsum_lt bb_q4
  rw [List.length_map, lb_q4, e_q4] at lb
  have e32 : (2:Int) ^ bitN 32 = 4294967296 := by decide
  rw [e32] at lb
  rw [← u1, ← u2, ← h_v1, ← h_v2, ← h_v3]
  refine ⟨s_, lb.2, ?_⟩
  rw [← e_q6, e_q5]
  rfl
set_option maxHeartbeats 16000000 in
theorem Sat.make {m : Mv} {d : Int} (h : frM m d) {W : List Int} (w : VG W) (s_ : Sat (makM m d) W) :
    ∃ xK xV xO xH xA yK yV yO yH yA : Int, ∃ xP yP : List Int,
      (xK = gV W 11 ∧ xV = gV W 12 ∧ xO = gV W 13 ∧ xH = gV W 14 ∧ xA = gV W 15 ∧ xP = (ixS m.x.p 16).map (gV W) ∧
        xO = twoH xK 2 ∧ (xV = 0 ∨ climbH xP xA (mrkH (xV, xO, xH)) = gV W 1) ∧ manyH [twoH xK 1, xH, xA] = gV W 5 ∧ twoH (twoH xK 1) (gV W 4) = gV W 9 ∧ 0 ≤ xA ∧ xA < 2 ^ m.x.p.length) ∧
      (yK = gV W (mkG1 m d).vals.length ∧ yV = gV W (((mkG1 m d).vals.length + 1 : Nat) : Int) ∧ yO = gV W (((mkG1 m d).vals.length + 2 : Nat) : Int) ∧ yH = gV W (((mkG1 m d).vals.length + 3 : Nat) : Int) ∧ yA = gV W (((mkG1 m d).vals.length + 4 : Nat) : Int) ∧ yP = (ixS m.y.p ((mkG1 m d).vals.length + 5)).map (gV W) ∧
        yO = twoH yK 2 ∧ (yV = 0 ∨ climbH yP yA (mrkH (yV, yO, yH)) = gV W 1) ∧ manyH [twoH yK 1, yH, yA] = gV W 6 ∧ twoH (twoH yK 1) (gV W 4) = gV W 10 ∧ 0 ≤ yA ∧ yA < 2 ^ m.y.p.length) ∧
      (gV W (mkG2 m d).vals.length < 4294967296 ∧ mrkH (gV W (mkG2 m d).vals.length, gV W (((mkG2 m d).vals.length + 1 : Nat) : Int), gV W (((mkG2 m d).vals.length + 2 : Nat) : Int)) = gV W 7) ∧
      (gV W (mkG3 m d).vals.length < 4294967296 ∧ mrkH (gV W (mkG3 m d).vals.length, gV W (((mkG3 m d).vals.length + 1 : Nat) : Int), gV W (((mkG3 m d).vals.length + 2 : Nat) : Int)) = gV W 8) ∧
      (gV W 2 + (xV + yV)) % 288230376287764481 = (gV W 3 + (gV W (mkG2 m d).vals.length + gV W (mkG3 m d).vals.length)) % 288230376287764481 := by
  obtain ⟨mr, mi, mo, ms, ⟨xk, ⟨xv, xo, xr⟩, xa, xp⟩, ⟨yk, ⟨yv, yo, yr⟩, ya, yp⟩, ⟨pv, po, pr⟩, ⟨qv, qo, qr⟩⟩ := m
  obtain ⟨h1, h2, h3, h4, ⟨x1, ⟨x2, x3, x4⟩, xl, xl2, x5, x6⟩, ⟨y1, ⟨y2, y3, y4⟩, yl, yl2, y5, y6⟩, ⟨p1, p2, p3⟩, ⟨q1, q2, q3⟩⟩ := h
  simp only at h1 h2 h3 h4 x1 x2 x3 x4 xl xl2 x5 x6 y1 y2 y3 y4 yl yl2 y5 y6 p1 p2 p3 q1 q2 q3
  obtain ⟨M, hM⟩ : ∃ x : Mv, x = ⟨mr, mi, mo, ms, ⟨xk, (xv, xo, xr), xa, xp⟩, ⟨yk, (yv, yo, yr), ya, yp⟩, (pv, po, pr), (qv, qo, qr)⟩ := ⟨_, rfl⟩
  have g := pubK_good (numsH M)
  have l0 : (pubK (numsH M)).vals.length = 11 := by simp [pubK, numsH_len]
  have fA : ∀ n : Nat, n < 11 → ∃ x, Vl (pubK (numsH M)) n x := fun n hn => ⟨_, by omega, by rw [l0]; omega, rfl⟩
  obtain ⟨t1, f1⟩ := fA 1 (by decide)
  obtain ⟨t2, f2⟩ := fA 2 (by decide)
  obtain ⟨t3, f3⟩ := fA 3 (by decide)
  obtain ⟨t4, f4⟩ := fA 4 (by decide)
  obtain ⟨t5, f5⟩ := fA 5 (by decide)
  obtain ⟨t6, f6⟩ := fA 6 (by decide)
  obtain ⟨t7, f7⟩ := fA 7 (by decide)
  obtain ⟨t8, f8⟩ := fA 8 (by decide)
  obtain ⟨t9, f9⟩ := fA 9 (by decide)
  obtain ⟨t10, f10⟩ := fA 10 (by decide)
  replace f1 : Vl (pubK (numsH M)) 1 t1 := f1
  replace f2 : Vl (pubK (numsH M)) 2 t2 := f2
  replace f3 : Vl (pubK (numsH M)) 3 t3 := f3
  replace f4 : Vl (pubK (numsH M)) 4 t4 := f4
  replace f5 : Vl (pubK (numsH M)) 5 t5 := f5
  replace f6 : Vl (pubK (numsH M)) 6 t6 := f6
  replace f7 : Vl (pubK (numsH M)) 7 t7 := f7
  replace f8 : Vl (pubK (numsH M)) 8 t8 := f8
  replace f9 : Vl (pubK (numsH M)) 9 t9 := f9
  replace f10 : Vl (pubK (numsH M)) 10 t10 := f10
  clear fA
  rw [← hM] at s_ ⊢
  obtain ⟨G0, hG0⟩ : ∃ x, x = pubK (numsH M) := ⟨_, rfl⟩
  obtain ⟨G1, hG1⟩ : ∃ x, x = mkG1 M d := ⟨_, rfl⟩
  obtain ⟨G2, hG2⟩ : ∃ x, x = mkG2 M d := ⟨_, rfl⟩
  obtain ⟨G3, hG3⟩ : ∃ x, x = mkG3 M d := ⟨_, rfl⟩
  obtain ⟨G4, hG4⟩ : ∃ x, x = mkG4 M d := ⟨_, rfl⟩
  obtain ⟨G5, hG5⟩ : ∃ x, x = mkG5 M d := ⟨_, rfl⟩
  obtain ⟨G6, hG6⟩ : ∃ x, x = mkG6 M d := ⟨_, rfl⟩
  obtain ⟨V1, hV1⟩ : ∃ x, x = mkV1 M := ⟨_, rfl⟩
  obtain ⟨V2, hV2⟩ : ∃ x, x = mkV2 M d := ⟨_, rfl⟩
  rw [← hG0] at f1 f2 f3 f4 f5 f6 f7 f8 f9 f10 g l0
  have d1 : G1 = inpM G0 xk xv xo xr xa xp d 1 4 5 9 := by rw [hG1, hG0, hM]
  have d2 : G2 = inpM G1 yk yv yo yr ya yp d 1 4 6 10 := by rw [hG2, hG1, hM]
  have d3 : G3 = outM G2 (pv, po, pr) 7 := by rw [hG3, hG2, hM]
  have d4 : G4 = outM G3 (qv, qo, qr) 8 := by rw [hG4, hG3, hM]
  have dV1 : V1 = ((freshM G0 xk).vals.length : Int) := by rw [hV1, hG0, hM]
  have dV2 : V2 = ((freshM G1 yk).vals.length : Int) := by rw [hV2, hG1, hM]
  have d5 : G5 = linM G4 (sumS 0 1 [2, V1, V2]) := by rw [hG5, hG4, hV1, hV2]
  have d6 : G6 = linM G5 (sumS 0 1 [3, (G2.vals.length : Int), (G3.vals.length : Int)]) := by rw [hG6, hG5, hG2, hG3]
  have dF : makM M d = sameM G6 G4.vals.length G5.vals.length := by rw [hG6, hG4, hG5]; rfl
  rw [dF] at s_
  rw [← hG1, ← hG2, ← hG3]
  clear dF hG0 hG1 hG2 hG3 hG4 hG5 hG6 hV1 hV2
  obtain ⟨L1, fx⟩ := inp_lw g x1 x2 x3 x4 x6 xl2 x5 xl f1 f4 f5 f9
  rw [← d1] at L1 fx
  rw [← dV1] at fx
  have back1 := @Sat.inp G0 g xk xv xo xr xa 1 4 5 9 d t1 t4 t5 t9 xp x1 x2 x3 x4 x6 xl2 x5 xl f1 f4 f5 f9 W w
  rw [← d1] at back1
  replace f1 := f1.mv L1
  replace f2 := f2.mv L1
  replace f3 := f3.mv L1
  replace f4 := f4.mv L1
  replace f5 := f5.mv L1
  replace f6 := f6.mv L1
  replace f7 := f7.mv L1
  replace f8 := f8.mv L1
  replace f9 := f9.mv L1
  replace f10 := f10.mv L1
  have g1 := L1.good
  obtain ⟨L2, fy⟩ := inp_lw g1 y1 y2 y3 y4 y6 yl2 y5 yl f1 f4 f6 f10
  rw [← d2] at L2 fy
  rw [← dV2] at fy
  have back2 := @Sat.inp G1 g1 yk yv yo yr ya 1 4 6 10 d t1 t4 t6 t10 yp y1 y2 y3 y4 y6 yl2 y5 yl f1 f4 f6 f10 W w
  rw [← d2] at back2
  replace f1 := f1.mv L2
  replace f2 := f2.mv L2
  replace f3 := f3.mv L2
  replace f4 := f4.mv L2
  replace f5 := f5.mv L2
  replace f6 := f6.mv L2
  replace f7 := f7.mv L2
  replace f8 := f8.mv L2
  replace f9 := f9.mv L2
  replace f10 := f10.mv L2
  replace fx := fx.mv L2
  have g2 := L2.good
  obtain ⟨L3, fp⟩ := out_lw g2 p1 p2 p3 f7
  rw [← d3] at L3 fp
  have back3 := @Sat.out G2 g2 pv po pr 7 t7 p1 p2 p3 f7 W w
  rw [← d3] at back3
  replace f1 := f1.mv L3
  replace f2 := f2.mv L3
  replace f3 := f3.mv L3
  replace f4 := f4.mv L3
  replace f5 := f5.mv L3
  replace f6 := f6.mv L3
  replace f7 := f7.mv L3
  replace f8 := f8.mv L3
  replace f9 := f9.mv L3
  replace f10 := f10.mv L3
  replace fx := fx.mv L3
  replace fy := fy.mv L3
  have g3 := L3.good
  obtain ⟨L4, fq⟩ := out_lw g3 q1 q2 q3 f8
  rw [← d4] at L4 fq
  have back4 := @Sat.out G3 g3 qv qo qr 8 t8 q1 q2 q3 f8 W w
  rw [← d4] at back4
  replace f1 := f1.mv L4
  replace f2 := f2.mv L4
  replace f3 := f3.mv L4
  replace f4 := f4.mv L4
  replace f5 := f5.mv L4
  replace f6 := f6.mv L4
  replace f7 := f7.mv L4
  replace f8 := f8.mv L4
  replace f9 := f9.mv L4
  replace f10 := f10.mv L4
  replace fx := fx.mv L4
  replace fy := fy.mv L4
  replace fp := fp.mv L4
  have g4 := L4.good
  obtain ⟨L5, fs⟩ := sum3_lw g4 f2 fx fy
  rw [← d5] at L5 fs
  have back5 := @Sat.sum3 G4 W w 2 V1 V2 t2 xv yv f2 fx fy
  rw [← d5] at back5
  replace f1 := f1.mv L5
  replace f2 := f2.mv L5
  replace f3 := f3.mv L5
  replace f4 := f4.mv L5
  replace f5 := f5.mv L5
  replace f6 := f6.mv L5
  replace f7 := f7.mv L5
  replace f8 := f8.mv L5
  replace f9 := f9.mv L5
  replace f10 := f10.mv L5
  replace fx := fx.mv L5
  replace fy := fy.mv L5
  replace fp := fp.mv L5
  replace fq := fq.mv L5
  have g5 := L5.good
  obtain ⟨L6, ft⟩ := sum3_lw g5 f3 fp fq
  rw [← d6] at L6 ft
  have back6 := @Sat.sum3 G5 W w 3 (G2.vals.length : Int) (G3.vals.length : Int) t3 pv qv f3 fp fq
  rw [← d6] at back6
  replace fs := fs.mv L6
  obtain ⟨s_, eF⟩ := Sat.same w s_
  rw [fs.i, ft.i] at eF
  obtain ⟨s_, e6⟩ := back6 s_
  obtain ⟨s_, e5⟩ := back5 s_
  obtain ⟨s_, c4⟩ := back4 s_
  obtain ⟨s_, c3⟩ := back3 s_
  obtain ⟨s_, yK, yV, yO, yH, yA, yP, cy⟩ := back2 s_
  obtain ⟨s_, xK, xV, xO, xH, xA, xP, cx⟩ := back1 s_
  clear back1 back2 back3 back4 back5 back6
  rw [e5, e6] at eF
  have wV1 : gV W V1 = xV := by rw [cx.2.1, dV1, fresh_len]
  have wV2 : gV W V2 = yV := by rw [cy.2.1, dV2, fresh_len]
  rw [wV1, wV2] at eF
  rw [l0] at cx
  rw [show M.x.p = xp by rw [hM], show M.y.p = yp by rw [hM]]
  exact ⟨xK, xV, xO, xH, xA, yK, yV, yO, yH, yA, xP, yP, cx, cy, c3, c4, eF⟩
end Go.Proofs.YtngphcdhdllnnaaGreat.E.M
end
section
/- obollaw18: the move that values are of, read: a contract over E. -/
set_option linter.unusedVariables false
set_option linter.unusedSimpArgs false
set_option maxRecDepth 10000
open Go Go.Proofs.YtngphcdhdllnnaaGreat.E Go.Proofs
namespace Go.Proofs.YtngphcdhdllnnaaGreat.E.M
set_option maxHeartbeats 16000000 in
theorem inp_len {m : Mk} (g : Good m) {k v o rh a ro si en an d zr zs ze za : Int} {p : List Int} (hk : 0 ≤ k ∧ k < 288230376287764481) (hv : 0 ≤ v ∧ v < 288230376287764481) (ho : 0 ≤ o ∧ o < 288230376287764481) (hrh : 0 ≤ rh ∧ rh < 288230376287764481)
    (hp : ∀ x ∈ p, 0 ≤ x ∧ x < 288230376287764481) (lp : p.length ≤ 16) (ha : 0 ≤ a ∧ a < 2 ^ p.length) (hd : d = p.length) (fr : Vl m ro zr) (fs : Vl m si zs) (fe : Vl m en ze) (fa : Vl m an za) :
    m.vals.length + 5 + p.length ≤ (inpM m k v o rh a p d ro si en an).vals.length := by
  subst hd
  have hP : (2:Int) ^ p.length ≤ 2 ^ 16 := by exact_mod_cast Nat.pow_le_pow_right (n := 2) (by decide) lp
  have hA : 0 ≤ a ∧ a < 288230376287764481 := by omega
  have L := Lw.refl g
  have g0_ := g
  obtain ⟨q1, h_q1⟩ : ∃ x, x = freshM m k := ⟨_, rfl⟩
  obtain ⟨v0, h_v0⟩ : ∃ x : Int, x = (m.vals.length : Int) := ⟨_, rfl⟩
  obtain ⟨l_, f0⟩ := fresh_lw g hk
  rw [← h_q1] at l_
  rw [← h_q1, ← h_v0] at f0
  replace fr := fr.mv l_
  replace fs := fs.mv l_
  replace fe := fe.mv l_
  replace fa := fa.mv l_
  replace L := L.t l_
  have g := l_.good
  clear l_
  obtain ⟨q2, h_q2⟩ : ∃ x, x = freshM q1 v := ⟨_, rfl⟩
  obtain ⟨v1, h_v1⟩ : ∃ x : Int, x = (q1.vals.length : Int) := ⟨_, rfl⟩
  obtain ⟨l_, f1⟩ := fresh_lw g hv
  rw [← h_q2] at l_
  rw [← h_q2, ← h_v1] at f1
  replace fr := fr.mv l_
  replace fs := fs.mv l_
  replace fe := fe.mv l_
  replace fa := fa.mv l_
  replace f0 := f0.mv l_
  replace L := L.t l_
  have g := l_.good
  clear l_
  obtain ⟨q3, h_q3⟩ : ∃ x, x = freshM q2 o := ⟨_, rfl⟩
  obtain ⟨v2, h_v2⟩ : ∃ x : Int, x = (q2.vals.length : Int) := ⟨_, rfl⟩
  obtain ⟨l_, f2⟩ := fresh_lw g ho
  rw [← h_q3] at l_
  rw [← h_q3, ← h_v2] at f2
  replace fr := fr.mv l_
  replace fs := fs.mv l_
  replace fe := fe.mv l_
  replace fa := fa.mv l_
  replace f0 := f0.mv l_
  replace f1 := f1.mv l_
  replace L := L.t l_
  have g := l_.good
  clear l_
  obtain ⟨q4, h_q4⟩ : ∃ x, x = freshM q3 rh := ⟨_, rfl⟩
  obtain ⟨v3, h_v3⟩ : ∃ x : Int, x = (q3.vals.length : Int) := ⟨_, rfl⟩
  obtain ⟨l_, f3⟩ := fresh_lw g hrh
  rw [← h_q4] at l_
  rw [← h_q4, ← h_v3] at f3
  replace fr := fr.mv l_
  replace fs := fs.mv l_
  replace fe := fe.mv l_
  replace fa := fa.mv l_
  replace f0 := f0.mv l_
  replace f1 := f1.mv l_
  replace f2 := f2.mv l_
  replace L := L.t l_
  have g := l_.good
  clear l_
  obtain ⟨q5, h_q5⟩ : ∃ x, x = freshM q4 a := ⟨_, rfl⟩
  obtain ⟨v4, h_v4⟩ : ∃ x : Int, x = (q4.vals.length : Int) := ⟨_, rfl⟩
  obtain ⟨l_, f4⟩ := fresh_lw g hA
  rw [← h_q5] at l_
  rw [← h_q5, ← h_v4] at f4
  replace fr := fr.mv l_
  replace fs := fs.mv l_
  replace fe := fe.mv l_
  replace fa := fa.mv l_
  replace f0 := f0.mv l_
  replace f1 := f1.mv l_
  replace f2 := f2.mv l_
  replace f3 := f3.mv l_
  replace L := L.t l_
  have g := l_.good
  clear l_
  obtain ⟨q6, h_q6⟩ : ∃ x, x = (pthS p q5 []).1 := ⟨_, rfl⟩
  obtain ⟨P, h_P⟩ : ∃ x, x = (pthS p q5 []).2 := ⟨_, rfl⟩
  obtain ⟨l_, fP⟩ := pth_lw g hp
  rw [← h_q6] at l_
  rw [← h_q6, ← h_P] at fP
  replace fr := fr.mv l_
  replace fs := fs.mv l_
  replace fe := fe.mv l_
  replace fa := fa.mv l_
  replace f0 := f0.mv l_
  replace f1 := f1.mv l_
  replace f2 := f2.mv l_
  replace f3 := f3.mv l_
  replace f4 := f4.mv l_
  replace L := L.t l_
  have g := l_.good
  clear l_
  have LE : m.vals.length + 5 + p.length = q6.vals.length := by
    have e6 : q6.vals.length = q5.vals.length + p.length := by
      rw [h_q6, pthS_eq]
      have := (frS_law p (m := q5) (by
        have g1 := (((((fresh_lw g0_ hk).1.good.fresh v).fresh o).fresh rh).fresh a)
        rw [← h_q1, ← h_q2, ← h_q3, ← h_q4, ← h_q5] at g1
        exact g1)).len
      rw [List.length_map] at this
      exact this
    rw [e6, h_q5, fresh_len, h_q4, fresh_len, h_q3, fresh_len, h_q2, fresh_len, h_q1, fresh_len]
  replace LE : m.vals.length + 5 + p.length ≤ q6.vals.length := Nat.le_of_eq LE
  obtain ⟨q7, h_q7⟩ : ∃ x, x = linM q6 [⟨0, 1⟩] := ⟨_, rfl⟩
  obtain ⟨k1, h_k1⟩ : ∃ x : Int, x = (q6.vals.length : Int) := ⟨_, rfl⟩
  obtain ⟨l_, f5⟩ := lin1_lw g 1
  rw [← h_q7] at l_
  rw [← h_q7, ← h_k1] at f5
  replace fr := fr.mv l_
  replace fs := fs.mv l_
  replace fe := fe.mv l_
  replace fa := fa.mv l_
  replace f0 := f0.mv l_
  replace f1 := f1.mv l_
  replace f2 := f2.mv l_
  replace f3 := f3.mv l_
  replace f4 := f4.mv l_
  replace fP := fP.mv l_
  replace L := L.t l_
  replace LE := Nat.le_trans LE l_.le
  have g := l_.good
  clear l_
  rw [show (1:Int) % 288230376287764481 = 1 from rfl] at f5
  obtain ⟨q8, h_q8⟩ : ∃ x, x = twoM q7 v0 k1 := ⟨_, rfl⟩
  obtain ⟨hi, h_hi⟩ : ∃ x : Int, x = twoR q7 v0 k1 := ⟨_, rfl⟩
  obtain ⟨l_, f6⟩ := two_lw g f0 f5
  rw [← h_q8] at l_
  rw [← h_q8, ← h_hi] at f6
  replace fr := fr.mv l_
  replace fs := fs.mv l_
  replace fe := fe.mv l_
  replace fa := fa.mv l_
  replace f0 := f0.mv l_
  replace f1 := f1.mv l_
  replace f2 := f2.mv l_
  replace f3 := f3.mv l_
  replace f4 := f4.mv l_
  replace fP := fP.mv l_
  replace f5 := f5.mv l_
  replace L := L.t l_
  replace LE := Nat.le_trans LE l_.le
  have g := l_.good
  clear l_
  obtain ⟨q9, h_q9⟩ : ∃ x, x = linM q8 [⟨0, 2⟩] := ⟨_, rfl⟩
  obtain ⟨k2, h_k2⟩ : ∃ x : Int, x = (q8.vals.length : Int) := ⟨_, rfl⟩
  obtain ⟨l_, f7⟩ := lin1_lw g 2
  rw [← h_q9] at l_
  rw [← h_q9, ← h_k2] at f7
  replace fr := fr.mv l_
  replace fs := fs.mv l_
  replace fe := fe.mv l_
  replace fa := fa.mv l_
  replace f0 := f0.mv l_
  replace f1 := f1.mv l_
  replace f2 := f2.mv l_
  replace f3 := f3.mv l_
  replace f4 := f4.mv l_
  replace fP := fP.mv l_
  replace f5 := f5.mv l_
  replace f6 := f6.mv l_
  replace L := L.t l_
  replace LE := Nat.le_trans LE l_.le
  have g := l_.good
  clear l_
  rw [show (2:Int) % 288230376287764481 = 2 from rfl] at f7
  obtain ⟨q10, h_q10⟩ : ∃ x, x = twoM q9 v0 k2 := ⟨_, rfl⟩
  obtain ⟨ow, h_ow⟩ : ∃ x : Int, x = twoR q9 v0 k2 := ⟨_, rfl⟩
  obtain ⟨l_, f8⟩ := two_lw g f0 f7
  rw [← h_q10] at l_
  rw [← h_q10, ← h_ow] at f8
  replace fr := fr.mv l_
  replace fs := fs.mv l_
  replace fe := fe.mv l_
  replace fa := fa.mv l_
  replace f0 := f0.mv l_
  replace f1 := f1.mv l_
  replace f2 := f2.mv l_
  replace f3 := f3.mv l_
  replace f4 := f4.mv l_
  replace fP := fP.mv l_
  replace f5 := f5.mv l_
  replace f6 := f6.mv l_
  replace f7 := f7.mv l_
  replace L := L.t l_
  replace LE := Nat.le_trans LE l_.le
  have g := l_.good
  clear l_
  obtain ⟨q11, h_q11⟩ : ∃ x, x = sameM q10 ow v2 := ⟨_, rfl⟩
  have l_ := same_lw g f8 f2
  rw [← h_q11] at l_
  replace fr := fr.mv l_
  replace fs := fs.mv l_
  replace fe := fe.mv l_
  replace fa := fa.mv l_
  replace f0 := f0.mv l_
  replace f1 := f1.mv l_
  replace f2 := f2.mv l_
  replace f3 := f3.mv l_
  replace f4 := f4.mv l_
  replace fP := fP.mv l_
  replace f5 := f5.mv l_
  replace f6 := f6.mv l_
  replace f7 := f7.mv l_
  replace f8 := f8.mv l_
  replace L := L.trans l_
  replace LE := Nat.le_trans LE l_.le
  have g := l_.good
  clear l_
  obtain ⟨q12, h_q12⟩ : ∃ x, x = (manE q11 [v1, v2, v3]).1 := ⟨_, rfl⟩
  obtain ⟨h12, h_h12⟩ : ∃ x : Int, x = (manE q11 [v1, v2, v3]).2 := ⟨_, rfl⟩
  obtain ⟨l_, f9⟩ := many_lw g (Vs.cons f1 (Vs.cons f2 (Vs.cons f3 Vs.nil)))
  rw [← h_q12] at l_
  rw [← h_q12, ← h_h12] at f9
  replace fr := fr.mv l_
  replace fs := fs.mv l_
  replace fe := fe.mv l_
  replace fa := fa.mv l_
  replace f0 := f0.mv l_
  replace f1 := f1.mv l_
  replace f2 := f2.mv l_
  replace f3 := f3.mv l_
  replace f4 := f4.mv l_
  replace fP := fP.mv l_
  replace f5 := f5.mv l_
  replace f6 := f6.mv l_
  replace f7 := f7.mv l_
  replace f8 := f8.mv l_
  replace L := L.t l_
  replace LE := Nat.le_trans LE l_.le
  have g := l_.good
  clear l_
  obtain ⟨q13, h_q13⟩ : ∃ x, x = bitM q12 v4 p.length := ⟨_, rfl⟩
  obtain ⟨B, h_B⟩ : ∃ x, x = (bitE q12 v4 p.length).2.1 := ⟨_, rfl⟩
  obtain ⟨l_, fB⟩ := bit_lw g f4 (n := p.length) (by omega)
  rw [← h_q13] at l_
  rw [← h_q13, ← h_B] at fB
  replace fr := fr.mv l_
  replace fs := fs.mv l_
  replace fe := fe.mv l_
  replace fa := fa.mv l_
  replace f0 := f0.mv l_
  replace f1 := f1.mv l_
  replace f2 := f2.mv l_
  replace f3 := f3.mv l_
  replace f4 := f4.mv l_
  replace fP := fP.mv l_
  replace f5 := f5.mv l_
  replace f6 := f6.mv l_
  replace f7 := f7.mv l_
  replace f8 := f8.mv l_
  replace f9 := f9.mv l_
  replace L := L.trans l_
  replace LE := Nat.le_trans LE l_.le
  have g := l_.good
  clear l_
  obtain ⟨q14, h_q14⟩ : ∃ x, x = (clmS B P q13 h12).1 := ⟨_, rfl⟩
  obtain ⟨h14, h_h14⟩ : ∃ x : Int, x = (clmS B P q13 h12).2 := ⟨_, rfl⟩
  obtain ⟨l_, f10⟩ := clm_lw P p B q13 h12 a _ g fP fB f9
  rw [← h_q14] at l_
  rw [← h_q14, ← h_h14] at f10
  replace fr := fr.mv l_
  replace fs := fs.mv l_
  replace fe := fe.mv l_
  replace fa := fa.mv l_
  replace f0 := f0.mv l_
  replace f1 := f1.mv l_
  replace f2 := f2.mv l_
  replace f3 := f3.mv l_
  replace f4 := f4.mv l_
  replace fP := fP.mv l_
  replace f5 := f5.mv l_
  replace f6 := f6.mv l_
  replace f7 := f7.mv l_
  replace f8 := f8.mv l_
  replace f9 := f9.mv l_
  replace fB := fB.mv l_
  replace L := L.t l_
  replace LE := Nat.le_trans LE l_.le
  have g := l_.good
  clear l_
  obtain ⟨q15, h_q15⟩ : ∃ x, x = linM q14 (sumS 0 288230376287764480 [h14, ro]) := ⟨_, rfl⟩
  obtain ⟨k3, h_k3⟩ : ∃ x : Int, x = (q14.vals.length : Int) := ⟨_, rfl⟩
  obtain ⟨l_, f11⟩ := sum2_lw g 288230376287764480 f10 fr
  rw [← h_q15] at l_
  rw [← h_q15, ← h_k3] at f11
  replace fr := fr.mv l_
  replace fs := fs.mv l_
  replace fe := fe.mv l_
  replace fa := fa.mv l_
  replace f0 := f0.mv l_
  replace f1 := f1.mv l_
  replace f2 := f2.mv l_
  replace f3 := f3.mv l_
  replace f4 := f4.mv l_
  replace fP := fP.mv l_
  replace f5 := f5.mv l_
  replace f6 := f6.mv l_
  replace f7 := f7.mv l_
  replace f8 := f8.mv l_
  replace f9 := f9.mv l_
  replace fB := fB.mv l_
  replace f10 := f10.mv l_
  replace L := L.t l_
  replace LE := Nat.le_trans LE l_.le
  have g := l_.good
  clear l_
  obtain ⟨q16, h_q16⟩ : ∃ x, x = mulM q15 v1 k3 := ⟨_, rfl⟩
  obtain ⟨off, h_off⟩ : ∃ x : Int, x = (q15.vals.length : Int) := ⟨_, rfl⟩
  obtain ⟨l_, f12⟩ := mul_lw g f1 f11
  rw [← h_q16] at l_
  rw [← h_q16, ← h_off] at f12
  replace fr := fr.mv l_
  replace fs := fs.mv l_
  replace fe := fe.mv l_
  replace fa := fa.mv l_
  replace f0 := f0.mv l_
  replace f1 := f1.mv l_
  replace f2 := f2.mv l_
  replace f3 := f3.mv l_
  replace f4 := f4.mv l_
  replace fP := fP.mv l_
  replace f5 := f5.mv l_
  replace f6 := f6.mv l_
  replace f7 := f7.mv l_
  replace f8 := f8.mv l_
  replace f9 := f9.mv l_
  replace fB := fB.mv l_
  replace f10 := f10.mv l_
  replace f11 := f11.mv l_
  replace L := L.t l_
  replace LE := Nat.le_trans LE l_.le
  have g := l_.good
  clear l_
  obtain ⟨q17, h_q17⟩ : ∃ x, x = linM q16 [] := ⟨_, rfl⟩
  obtain ⟨k4, h_k4⟩ : ∃ x : Int, x = (q16.vals.length : Int) := ⟨_, rfl⟩
  obtain ⟨l_, f13⟩ := lin0_lw g
  rw [← h_q17] at l_
  rw [← h_q17, ← h_k4] at f13
  replace fr := fr.mv l_
  replace fs := fs.mv l_
  replace fe := fe.mv l_
  replace fa := fa.mv l_
  replace f0 := f0.mv l_
  replace f1 := f1.mv l_
  replace f2 := f2.mv l_
  replace f3 := f3.mv l_
  replace f4 := f4.mv l_
  replace fP := fP.mv l_
  replace f5 := f5.mv l_
  replace f6 := f6.mv l_
  replace f7 := f7.mv l_
  replace f8 := f8.mv l_
  replace f9 := f9.mv l_
  replace fB := fB.mv l_
  replace f10 := f10.mv l_
  replace f11 := f11.mv l_
  replace f12 := f12.mv l_
  replace L := L.t l_
  replace LE := Nat.le_trans LE l_.le
  have g := l_.good
  clear l_
  obtain ⟨q18, h_q18⟩ : ∃ x, x = sameM q17 off k4 := ⟨_, rfl⟩
  have l_ := same_lw g f12 f13
  rw [← h_q18] at l_
  replace fr := fr.mv l_
  replace fs := fs.mv l_
  replace fe := fe.mv l_
  replace fa := fa.mv l_
  replace f0 := f0.mv l_
  replace f1 := f1.mv l_
  replace f2 := f2.mv l_
  replace f3 := f3.mv l_
  replace f4 := f4.mv l_
  replace fP := fP.mv l_
  replace f5 := f5.mv l_
  replace f6 := f6.mv l_
  replace f7 := f7.mv l_
  replace f8 := f8.mv l_
  replace f9 := f9.mv l_
  replace fB := fB.mv l_
  replace f10 := f10.mv l_
  replace f11 := f11.mv l_
  replace f12 := f12.mv l_
  replace f13 := f13.mv l_
  replace L := L.trans l_
  replace LE := Nat.le_trans LE l_.le
  have g := l_.good
  clear l_
  obtain ⟨q19, h_q19⟩ : ∃ x, x = (manE q18 [hi, v3, v4]).1 := ⟨_, rfl⟩
  obtain ⟨h19, h_h19⟩ : ∃ x : Int, x = (manE q18 [hi, v3, v4]).2 := ⟨_, rfl⟩
  obtain ⟨l_, f14⟩ := many_lw g (Vs.cons f6 (Vs.cons f3 (Vs.cons f4 Vs.nil)))
  rw [← h_q19] at l_
  rw [← h_q19, ← h_h19] at f14
  replace fr := fr.mv l_
  replace fs := fs.mv l_
  replace fe := fe.mv l_
  replace fa := fa.mv l_
  replace f0 := f0.mv l_
  replace f1 := f1.mv l_
  replace f2 := f2.mv l_
  replace f3 := f3.mv l_
  replace f4 := f4.mv l_
  replace fP := fP.mv l_
  replace f5 := f5.mv l_
  replace f6 := f6.mv l_
  replace f7 := f7.mv l_
  replace f8 := f8.mv l_
  replace f9 := f9.mv l_
  replace fB := fB.mv l_
  replace f10 := f10.mv l_
  replace f11 := f11.mv l_
  replace f12 := f12.mv l_
  replace f13 := f13.mv l_
  replace L := L.t l_
  replace LE := Nat.le_trans LE l_.le
  have g := l_.good
  clear l_
  obtain ⟨q20, h_q20⟩ : ∃ x, x = sameM q19 h19 en := ⟨_, rfl⟩
  have l_ := same_lw g f14 fe
  rw [← h_q20] at l_
  replace fr := fr.mv l_
  replace fs := fs.mv l_
  replace fe := fe.mv l_
  replace fa := fa.mv l_
  replace f0 := f0.mv l_
  replace f1 := f1.mv l_
  replace f2 := f2.mv l_
  replace f3 := f3.mv l_
  replace f4 := f4.mv l_
  replace fP := fP.mv l_
  replace f5 := f5.mv l_
  replace f6 := f6.mv l_
  replace f7 := f7.mv l_
  replace f8 := f8.mv l_
  replace f9 := f9.mv l_
  replace fB := fB.mv l_
  replace f10 := f10.mv l_
  replace f11 := f11.mv l_
  replace f12 := f12.mv l_
  replace f13 := f13.mv l_
  replace f14 := f14.mv l_
  replace L := L.trans l_
  replace LE := Nat.le_trans LE l_.le
  have g := l_.good
  clear l_
  obtain ⟨q21, h_q21⟩ : ∃ x, x = twoM q20 hi si := ⟨_, rfl⟩
  obtain ⟨an1, h_an1⟩ : ∃ x : Int, x = twoR q20 hi si := ⟨_, rfl⟩
  obtain ⟨l_, f15⟩ := two_lw g f6 fs
  rw [← h_q21] at l_
  rw [← h_q21, ← h_an1] at f15
  replace fr := fr.mv l_
  replace fs := fs.mv l_
  replace fe := fe.mv l_
  replace fa := fa.mv l_
  replace f0 := f0.mv l_
  replace f1 := f1.mv l_
  replace f2 := f2.mv l_
  replace f3 := f3.mv l_
  replace f4 := f4.mv l_
  replace fP := fP.mv l_
  replace f5 := f5.mv l_
  replace f6 := f6.mv l_
  replace f7 := f7.mv l_
  replace f8 := f8.mv l_
  replace f9 := f9.mv l_
  replace fB := fB.mv l_
  replace f10 := f10.mv l_
  replace f11 := f11.mv l_
  replace f12 := f12.mv l_
  replace f13 := f13.mv l_
  replace f14 := f14.mv l_
  replace L := L.t l_
  replace LE := Nat.le_trans LE l_.le
  have g := l_.good
  clear l_
  obtain ⟨q22, h_q22⟩ : ∃ x, x = sameM q21 an1 an := ⟨_, rfl⟩
  have l_ := same_lw g f15 fa
  rw [← h_q22] at l_
  replace fr := fr.mv l_
  replace fs := fs.mv l_
  replace fe := fe.mv l_
  replace fa := fa.mv l_
  replace f0 := f0.mv l_
  replace f1 := f1.mv l_
  replace f2 := f2.mv l_
  replace f3 := f3.mv l_
  replace f4 := f4.mv l_
  replace fP := fP.mv l_
  replace f5 := f5.mv l_
  replace f6 := f6.mv l_
  replace f7 := f7.mv l_
  replace f8 := f8.mv l_
  replace f9 := f9.mv l_
  replace fB := fB.mv l_
  replace f10 := f10.mv l_
  replace f11 := f11.mv l_
  replace f12 := f12.mv l_
  replace f13 := f13.mv l_
  replace f14 := f14.mv l_
  replace f15 := f15.mv l_
  replace L := L.trans l_
  replace LE := Nat.le_trans LE l_.le
  have g := l_.good
  clear l_
  have eI : inpM m k v o rh a p p.length ro si en an = q22 := by
    clear LE
    subst h_q1 h_v0 h_q2 h_v1 h_q3 h_v2 h_q4 h_v3 h_q5 h_v4 h_q6 h_P h_q7 h_k1 h_q8 h_hi h_q9 h_k2 h_q10 h_ow h_q11 h_q12 h_h12 h_q13 h_B h_q14 h_h14 h_q15 h_k3 h_q16 h_off h_q17 h_k4 h_q18 h_q19 h_h19 h_q20 h_q21 h_an1 h_q22
    rfl
  rw [eI]
  exact LE
abbrev zerL (k : Nat) : List Int := List.replicate k 0
abbrev rdZ0 : Mk := pubK (zerL 10)
abbrev rdZ1 (k : Nat) : Mk := inpM rdZ0 0 0 0 0 0 (zerL k) ((zerL k).length : Int) 1 4 5 9
abbrev rdZ2 (k : Nat) : Mk := inpM (rdZ1 k) 0 0 0 0 0 (zerL k) ((zerL k).length : Int) 1 4 6 10
abbrev rdZ4 (k : Nat) : Mk := bitM (freshM (freshM (freshM (rdZ2 k) 0) 0) 0) (rdZ2 k).vals.length 32
abbrev rdZ5 (k : Nat) : Mk := (manE (rdZ4 k) [((rdZ2 k).vals.length : Int), (((rdZ2 k).vals.length + 1 : Nat) : Int), (((rdZ2 k).vals.length + 2 : Nat) : Int)]).1
theorem zerL_b (k : Nat) : ∀ x ∈ zerL k, (0:Int) ≤ x ∧ x < 288230376287764481 := fun x hx => by rw [List.eq_of_mem_replicate hx]; decide
set_option maxHeartbeats 4000000 in
theorem rdZ_good {k : Nat} (hk : k ≤ 16) : Good (rdZ1 k) ∧ Good (rdZ2 k) ∧ Good (rdZ5 k) ∧ 11 + 5 + k ≤ (rdZ1 k).vals.length ∧ (rdZ1 k).vals.length + 5 + k ≤ (rdZ2 k).vals.length ∧ (rdZ2 k).vals.length + 3 ≤ (rdZ5 k).vals.length := by
  have g := pubK_good (zerL 10)
  have l0 : rdZ0.vals.length = 11 := by simp [pubK]
  have fA : ∀ n : Nat, n < 11 → ∃ x, Vl rdZ0 n x := fun n hn => ⟨_, by omega, by rw [l0]; omega, rfl⟩
  obtain ⟨t1, f1⟩ := fA 1 (by decide)
  obtain ⟨t4, f4⟩ := fA 4 (by decide)
  obtain ⟨t5, f5⟩ := fA 5 (by decide)
  obtain ⟨t6, f6⟩ := fA 6 (by decide)
  obtain ⟨t9, f9⟩ := fA 9 (by decide)
  obtain ⟨t10, f10⟩ := fA 10 (by decide)
  have z0 : (0:Int) ≤ 0 ∧ (0:Int) < 288230376287764481 := by decide
  have lz : (zerL k).length ≤ 16 := by rw [List.length_replicate]; exact hk
  have za : (0:Int) ≤ 0 ∧ (0:Int) < 2 ^ (zerL k).length := ⟨by decide, Int.pow_pos (by decide)⟩
  obtain ⟨l1, _⟩ := inp_lw g z0 z0 z0 z0 (zerL_b k) lz za rfl f1 f4 f5 f9
  have e1 : rdZ0.vals.length + 5 + (zerL k).length ≤ (rdZ1 k).vals.length := inp_len g z0 z0 z0 z0 (zerL_b k) lz za rfl f1 f4 f5 f9
  obtain ⟨l2, _⟩ := inp_lw l1.good z0 z0 z0 z0 (zerL_b k) lz za rfl (f1.mv l1) (f4.mv l1) (f6.mv l1) (f10.mv l1)
  have e2 : (rdZ1 k).vals.length + 5 + (zerL k).length ≤ (rdZ2 k).vals.length := inp_len l1.good z0 z0 z0 z0 (zerL_b k) lz za rfl (f1.mv l1) (f4.mv l1) (f6.mv l1) (f10.mv l1)
  have hz : (zerL k).length = k := List.length_replicate
  have g3 : Good (freshM (freshM (freshM (rdZ2 k) 0) 0) 0) := ((l2.good.fresh 0).fresh 0).fresh 0
  obtain ⟨lf1, fv⟩ := fresh_lw l2.good z0
  obtain ⟨lf2, _⟩ := fresh_lw lf1.good z0
  obtain ⟨lf3, _⟩ := fresh_lw lf2.good z0
  have lb := (bit_lw lf3.good ((fv.mv lf2).mv lf3) (n := 32) (by decide)).1
  have e3 : (freshM (freshM (freshM (rdZ2 k) 0) 0) 0).vals.length = (rdZ2 k).vals.length + 3 := by simp only [fresh_len]
  have e4 : (freshM (freshM (freshM (rdZ2 k) 0) 0) 0).vals.length ≤ (rdZ4 k).vals.length := lb.le
  have g4 : Good (rdZ4 k) := lb.good
  obtain ⟨X, l5, _⟩ := many_law g4 [((rdZ2 k).vals.length : Int), (((rdZ2 k).vals.length + 1 : Nat) : Int), (((rdZ2 k).vals.length + 2 : Nat) : Int)]
  have e5 : (rdZ5 k).vals.length = (rdZ4 k).vals.length + X.length := l5.len
  exact ⟨l1.good, l2.good, l5.good, by omega, by omega, by omega⟩
theorem zer_s (j : Nat) : zerL j ++ [0] = zerL (j + 1) := by show List.replicate j (0:Int) ++ [0] = _; rw [← List.replicate_succ']
/-- the move that values are of -/
def rdM (V : List Int) (k n1 n2 n3 : Nat) : Mv := ⟨atV V 1, atV V 2, atV V 3, atV V 4, takI V 11 k, takI V n1 k, (atV V n2, atV V (n2 + 1), atV V (n2 + 2)), (atV V n3, atV V (n3 + 1), atV V (n3 + 2))⟩
set_option maxHeartbeats 16000000 in
theorem obollaw18_read_c {V : List Int} {k : Nat} {sp : Int} {L : List Rw} (hV : wV V) (lV : V.length < 1000000) (hk : k ≤ 16) (h : (rdZ5 k).vals.length + 3 ≤ V.length) : Fn Tryz.prog 23 [.agg [i V.length, i sp, slF rw_ L], ul V, i k] [] (fun r h_ => r = .tup [.agg (mvc (rdM V k (rdZ1 k).vals.length (rdZ2 k).vals.length (rdZ5 k).vals.length)), bo (decide (atV V 15 < 2 ^ k) && decide (atV V ((rdZ1 k).vals.length + 4) < 2 ^ k))]) := by
  refine Fn.enter Tryz.func23 Tryz.ntmps23 rfl (h := ?_)
  have tf := tfm
  have ot_ : (false || true) = true := rfl
  have tfv := tfv
  have tfm := tfm
  have tfn := tfn
  have tfr := tfr
  have n0 : Int.toNat 0 = 0 := rfl
  have n1 : Int.toNat 1 = 1 := rfl
  have q0 : (0:Int) ≤ 0 := by decide
  have q1' : (0:Int) ≤ 1 := by decide
  have x02 : (0:Int) < ((2:Nat):Int) := by decide
  have x12 : (1:Int) < ((2:Nat):Int) := by decide
  have z02 : (0:Int) < 2 := by decide
  have z12 : (1:Int) < 2 := by decide
  have a1_ : IntKind.i64.wrap (0 + 1) = 1 := by decide
  have a2_ : IntKind.i64.wrap (1 + 1) = 2 := by decide
  have i02 : decide ((0:Int) < 2) = true := rfl
  have i12 : decide ((1:Int) < 2) = true := rfl
  have i22 : decide ((2:Int) < 2) = false := rfl
  obtain ⟨gd1, gd2, gd5, ge1, ge2, ge3⟩ := rdZ_good hk
  have l0 : rdZ0.vals.length = 11 := by simp [pubK]
  have gd0 : rok rdZ0.rows := (pubK_good (zerL 10)).rok
  replace gd1 := gd1.rok
  replace gd2 := gd2.rok
  replace gd5 := gd5.rok
  have w0_ : w64 0 := by decide
  have wz : wV (zerL k) := fun v hv => by rw [List.eq_of_mem_replicate hv]; exact w0_
  have lz : (zerL k).length ≤ 16 := by rw [List.length_replicate]; exact hk
  have z00 : (0:Int) ≤ 0 ∧ (0:Int) < 9223372036854775808 := by decide
  have o0 : Mok 900000 rdZ0 := pubK_ok (by decide)
  obtain ⟨Z0, h_Z0⟩ : ∃ x, x = rdZ0 := ⟨_, rfl⟩
  obtain ⟨Z1, h_Z1⟩ : ∃ x, x = rdZ1 k := ⟨_, rfl⟩
  obtain ⟨Z2, h_Z2⟩ : ∃ x, x = rdZ2 k := ⟨_, rfl⟩
  obtain ⟨Z4, h_Z4⟩ : ∃ x, x = rdZ4 k := ⟨_, rfl⟩
  obtain ⟨Z5, h_Z5⟩ : ∃ x, x = rdZ5 k := ⟨_, rfl⟩
  obtain ⟨Y1, h_Y1⟩ : ∃ x, x = freshM Z2 0 := ⟨_, rfl⟩
  obtain ⟨Y2, h_Y2⟩ : ∃ x, x = freshM Y1 0 := ⟨_, rfl⟩
  obtain ⟨Y3, h_Y3⟩ : ∃ x, x = freshM Y2 0 := ⟨_, rfl⟩
  have c1 := obollaw18_input_c (m := Z0) (k := 0) (v := 0) (o := 0) (rh := 0) (a := 0) (p := zerL k) (ro := 1) (si := 4) (en := 5) (an := 9) (by rw [h_Z0]; exact Mok.mono o0 (by decide)) w0_ w0_ w0_ w0_ z00 wz lz
  have o1 : Mok 899000 Z1 := by rw [h_Z1]; exact inpM_ok (Mok.mono o0 (by decide)) _ _ _ _ _ lz _ _ _ _ _
  have c2 := obollaw18_input_c (m := Z1) (k := 0) (v := 0) (o := 0) (rh := 0) (a := 0) (p := zerL k) (ro := 1) (si := 4) (en := 6) (an := 10) (Mok.mono o1 (by decide)) w0_ w0_ w0_ w0_ z00 wz lz
  have o2 : Mok 898000 Z2 := by rw [h_Z2]; rw [h_Z1] at o1; exact inpM_ok (Mok.mono o1 (by decide)) _ _ _ _ _ lz _ _ _ _ _
  have d1 : inpM Z0 0 0 0 0 0 (zerL k) ((zerL k).length : Int) 1 4 5 9 = Z1 := by rw [h_Z0, h_Z1]
  have d2 : inpM Z1 0 0 0 0 0 (zerL k) ((zerL k).length : Int) 1 4 6 10 = Z2 := by rw [h_Z1, h_Z2]
  rw [d1] at c1
  rw [d2] at c2
  clear d1 d2
  have c3 := gadget_Maker_Private_c (m := Z2) (x := 0) (Mok.mono o2 (by decide)) w0_
  rw [← h_Y1] at c3
  have p1 : Mok 897000 Y1 := by rw [h_Y1]; exact Mok.fresh (Mok.mono o2 (by decide)) _
  have c4 := gadget_Maker_Private_c (m := Y1) (x := 0) (Mok.mono p1 (by decide)) w0_
  rw [← h_Y2] at c4
  have p2 : Mok 896000 Y2 := by rw [h_Y2]; exact Mok.fresh (Mok.mono p1 (by decide)) _
  have c5 := gadget_Maker_Private_c (m := Y2) (x := 0) (Mok.mono p2 (by decide)) w0_
  rw [← h_Y3] at c5
  have p3 : Mok 895000 Y3 := by rw [h_Y3]; exact Mok.fresh (Mok.mono p2 (by decide)) _
  have c6 := gadget_Maker_Bits_c (m := Y3) (a := (Z2.vals.length : Int)) (n := 32) (Mok.mono p3 (by decide))
  have d4 : bitM Y3 (Z2.vals.length : Int) 32 = Z4 := by rw [h_Z4, h_Y3, h_Y2, h_Y1, h_Z2]
  rw [d4] at c6
  have o4 : Mok 894000 Z4 := by rw [← d4]; exact bitM_ok (Mok.mono p3 (by decide)) _ _
  have c7 := gadget_Maker_Many_c (m := Z4) (V := [(Z2.vals.length : Int), ((Z2.vals.length + 1 : Nat) : Int), ((Z2.vals.length + 2 : Nat) : Int)]) (Mok.mono o4 (by simp))
  have d5 : (manE Z4 [(Z2.vals.length : Int), ((Z2.vals.length + 1 : Nat) : Int), ((Z2.vals.length + 2 : Nat) : Int)]).1 = Z5 := by rw [h_Z5, h_Z4, h_Z2]
  have o5 : Mok 893000 Z5 := by rw [← d5]; exact manE_ok (Mok.mono o4 (by simp))
  rw [d5] at c7
  rw [← h_Z0] at l0 gd0
  rw [← h_Z1] at gd1 ge1 ge2
  rw [← h_Z2] at gd2 ge2 ge3
  rw [← h_Z5] at gd5 ge3 h
  rw [← h_Z1, ← h_Z2, ← h_Z5]
  have q0_ : Mok 900000 Z0 := by rw [h_Z0]; exact o0
  clear d4 d5 o0
  obtain ⟨E1, hE1⟩ : ∃ x : Int, x = (Z1.vals.length : Int) := ⟨_, rfl⟩
  have ct1 := obollaw18_taken_c (V := V) (n := Z0.vals.length) (k := k) hV lV hk (by omega)
  have ct2 := obollaw18_taken_c (V := V) (n := Z1.vals.length) (k := k) hV lV hk (by omega)
  clear hE1 E1
  replace h_Z0 : id (Z0 = pubK (zerL 10)) := h_Z0
  clear h_Z1 h_Z2 h_Z4 h_Z5 h_Y1 h_Y2 h_Y3
  have hmk := mkU (n := k) (by omega)
  have ez : (zerL k).length = k := List.length_replicate
  have hfl : id (AV.sl k (sub 0 (k * 1) (fm u1 (List.replicate k 0))) = ul (zerL k)) := by
    show _ = AV.sl (List.replicate k (0:Int)).length (fm u1 (List.replicate k 0))
    rw [sub_all (by rw [fm_len u1_len, List.length_replicate]; exact Nat.le_refl _), List.length_replicate]
  clear ez
  repeat refine AW.seq ?_
  refine AW.reg ?_
  iterate 3 refine AOL.s1 (h := ?_)
  refine AOL.nil ?_
  refine AW.kq [1, 2, 3, 6] (h := ?_)
  repeat refine AW.seq ?_
  refine AW.reg ?_
  refine AOL.callNew (b := 1004) rfl (hst := by simp only [St.drops, St.drop, mapT, mapH, kill, kills, del, St.put, ins, reduceIte, Nat.reduceAdd, Nat.reduceLT, Nat.reduceEqDiff, Bool.false_eq_true]; exact rfl) ?_
  iterate 1 refine AOL.s1 (h := ?_)
  refine AOL.nil ?_
  refine AW.kq [1, 2, 3, 6, 8] (h := ?_)
  repeat refine AW.seq ?_
  refine AW.reg ?_
  iterate 1 refine AOL.s1 (h := ?_)
  refine AOL.ptrNil rfl (h := ?_)
  refine AOL.nil ?_
  refine AW.kq [1, 2, 3, 6, 8, 20] (h := ?_)
  repeat refine AW.seq ?_
  refine AW.cond rfl (fun c_ => ?_) (fun c_ => ?_)
  · cases c_
  refine AW.skip ?_
  repeat refine AW.seq ?_
  refine AW.reg ?_
  iterate 1 refine AOL.s1 (h := ?_)
  refine AOL.nil ?_
  refine AW.kq [1, 2, 3, 6, 8, 9] (h := ?_)
  repeat refine AW.seq ?_
  refine AW.block ?_
  repeat refine AW.seq ?_
  refine AW.loopK [1, 2, 3, 6, 8, 9] (fun n' s => ∃ (j : Nat), s = ⟨173, [(1, ul V), (2, i k), (3, .ptr 1048 0), (6, .ptr 1096 0), (8, .ptr 1004 0), (9, i j)], [(1004, mkB (pubK (zerL j)) 1005 1006), (1005, rwB (pubK (zerL j)).rows), (1006, vlB (pubK (zerL j)).vals), (1048, ⟨36, true, [i V.length, i sp, slF rw_ L]⟩), (1096, ⟨31, true, [u 0, u 0, u 0, u 0, u 0, u 0, u 0, u 0, i 0, .val (.slice none 0 0), u 0, u 0, u 0, u 0, i 0, .val (.slice none 0 0), u 0, u 0, u 0, u 0, u 0, u 0]⟩)]⟩ ∧ j ≤ 10 ∧ n' = 10 - j) (10) ?_ ?_
  · exact ⟨0, rfl, by decide, rfl⟩
  rintro n' s ⟨j, rfl, hj, rfl⟩
  repeat refine AW.seq ?_
  refine AW.reg ?_
  iterate 2 refine AOL.s1 (h := ?_)
  refine AOL.nil ?_
  refine AW.kq [1, 2, 3, 6, 8, 9, 23] (h := ?_)
  repeat refine AW.seq ?_
  refine AW.cond rfl (fun d_ => ?_) (fun d_ => ?_)
  · have h1 : j < 10 := by
      have h2 : (j:Int) < 10 := by simpa using d_
      omega
    have hw := incq h1 (by decide)
    have lj : (zerL j).length = j := List.length_replicate
    have cq := gadget_Maker_Public_c (m := pubK (zerL j)) (x := 0) (Mok.mono (pubK_ok (by omega)) (by decide)) w0_ (by show 0 ≤ ((zerL j).length : Int) ∧ ((zerL j).length : Int) < 1000000; omega)
    rw [pubK_s, zer_s, show pubR (pubK (zerL j)) = [i (((zerL j).length + 1 : Nat) : Int), .val .nilIface] by unfold pubR; rw [pubK_i, pubK_e]] at cq
    clear lj d_
    refine AW.skip ?_
    repeat refine AW.seq ?_
    refine AW.block ?_
    repeat refine AW.seq ?_
    refine AW.reg ?_
    iterate 1 refine AOL.s1 (h := ?_)
    refine AOL.callM (l := 1004) (b := 1004) (cq) rfl (by kernel_rfl) rfl rfl rfl rfl rfl (hst := by simp only [St.drops, St.drop, mapT, mapH, kill, kills, del, St.put, ins, reduceIte, Nat.reduceAdd, Nat.reduceLT, Nat.reduceEqDiff, Bool.false_eq_true]; exact rfl) ?_
    refine AOL.nil ?_
    repeat refine AW.seq ?_
    refine AW.reg ?_
    iterate 3 refine AOL.s1 (h := ?_)
    refine AOL.nil ?_
    exact ⟨10 - (j + 1), by omega, j + 1, rfl, h1, rfl⟩
  · have hj10 : j = 10 := by simp at d_; omega
    subst hj10
    rw [show pubK (zerL 10) = Z0 from (show Z0 = pubK (zerL 10) from h_Z0).symm]
    clear d_
    replace l0 : id (Z0.vals.length = 11) := l0
    have w_1 : IntKind.i64.wrap ((Z2.vals.length:Int) + 1) = ((Z2.vals.length + 1 : Nat) : Int) := wrp (j := 1) (by omega)
    have w_2 : IntKind.i64.wrap ((Z2.vals.length:Int) + 2) = ((Z2.vals.length + 2 : Nat) : Int) := wrp (j := 2) (by omega)
    have w_3 : IntKind.i64.wrap ((Z5.vals.length:Int) + 3) = ((Z5.vals.length + 3 : Nat) : Int) := wrp (j := 3) (by omega)
    have nb : ¬ (((Z5.vals.length + 3 : Nat) : Int) > V.length) := by omega
    repeat refine AW.seq ?_
    refine AW.exit ?_
    repeat (first | refine Kseq.ex ?_ | refine Kloop.ex ?_ | refine Kblock.miss (by decide) ?_)
    refine Kblock.hit ?_
    refine AW.kq [1, 2, 3, 6, 8] (h := ?_)
    repeat refine AW.seq ?_
    refine AW.reg ?_
    iterate 5 refine AOL.s1 (h := ?_)
    refine AOL.nil ?_
    refine AW.fz 1464 rfl (fun h => by cases h) (h := ?_)
    rw [show AV.sl k (sub 0 (k * 1) (fm u1 (List.replicate k 0))) = ul (zerL k) from hfl]
    refine AW.kq [1, 2, 3, 6, 8, 10] (h := ?_)
    repeat refine AW.seq ?_
    refine AW.reg ?_
    iterate 1 refine AOL.s1 (h := ?_)
    refine AOL.callDone (l := 1004) (b := 1004) (⟨Mok.mono q0_ (by decide), gd0⟩) rfl rfl rfl rfl (hst := by simp only [St.drops, St.drop, mapT, mapH, kill, kills, del, St.put, ins, reduceIte, Nat.reduceAdd, Nat.reduceLT, Nat.reduceEqDiff, Bool.false_eq_true]; exact rfl) ?_
    iterate 6 refine AOL.s1 (h := ?_)
    refine AOL.nil ?_
    refine AW.kq [1, 2, 3, 6, 8, 10, 12] (h := ?_)
    repeat refine AW.seq ?_
    refine AW.reg ?_
    iterate 3 refine AOL.s1 (h := ?_)
    refine AOL.nil ?_
    refine AW.kq [1, 2, 3, 6, 8, 10, 13] (h := ?_)
    repeat refine AW.seq ?_
    refine AW.reg ?_
    iterate 2 refine AOL.s1 (h := ?_)
    refine AOL.callM (l := 1004) (b := 1004) (c1) rfl (by kernel_rfl) rfl rfl rfl rfl rfl (hst := by simp only [St.drops, St.drop, mapT, mapH, kill, kills, del, St.put, ins, reduceIte, Nat.reduceAdd, Nat.reduceLT, Nat.reduceEqDiff, Bool.false_eq_true]; exact rfl) ?_
    refine AOL.nil ?_
    refine AW.kq [1, 2, 3, 6, 8, 10, 13] (h := ?_)
    repeat refine AW.seq ?_
    refine AW.reg ?_
    iterate 1 refine AOL.s1 (h := ?_)
    refine AOL.callDone (l := 1004) (b := 1004) (⟨Mok.mono o1 (by decide), gd1⟩) rfl rfl rfl rfl (hst := by simp only [St.drops, St.drop, mapT, mapH, kill, kills, del, St.put, ins, reduceIte, Nat.reduceAdd, Nat.reduceLT, Nat.reduceEqDiff, Bool.false_eq_true]; exact rfl) ?_
    iterate 4 refine AOL.s1 (h := ?_)
    refine AOL.nil ?_
    refine AW.kq [1, 2, 3, 6, 8, 10, 12, 13] (h := ?_)
    repeat refine AW.seq ?_
    refine AW.reg ?_
    iterate 3 refine AOL.s1 (h := ?_)
    refine AOL.nil ?_
    refine AW.kq [1, 2, 3, 6, 8, 10, 13, 14] (h := ?_)
    repeat refine AW.seq ?_
    refine AW.reg ?_
    iterate 2 refine AOL.s1 (h := ?_)
    refine AOL.callM (l := 1004) (b := 1004) (c2) rfl (by kernel_rfl) rfl rfl rfl rfl rfl (hst := by simp only [St.drops, St.drop, mapT, mapH, kill, kills, del, St.put, ins, reduceIte, Nat.reduceAdd, Nat.reduceLT, Nat.reduceEqDiff, Bool.false_eq_true]; exact rfl) ?_
    refine AOL.nil ?_
    refine AW.kq [1, 2, 3, 6, 8, 13, 14] (h := ?_)
    repeat refine AW.seq ?_
    refine AW.reg ?_
    iterate 1 refine AOL.s1 (h := ?_)
    refine AOL.callDone (l := 1004) (b := 1004) (⟨Mok.mono o2 (by decide), gd2⟩) rfl rfl rfl rfl (hst := by simp only [St.drops, St.drop, mapT, mapH, kill, kills, del, St.put, ins, reduceIte, Nat.reduceAdd, Nat.reduceLT, Nat.reduceEqDiff, Bool.false_eq_true]; exact rfl) ?_
    iterate 4 refine AOL.s1 (h := ?_)
    refine AOL.nil ?_
    refine AW.kq [1, 2, 3, 6, 8, 12, 13, 14] (h := ?_)
    repeat refine AW.seq ?_
    refine AW.reg ?_
    iterate 3 refine AOL.s1 (h := ?_)
    refine AOL.nil ?_
    refine AW.kq [1, 2, 3, 6, 8, 13, 14, 15] (h := ?_)
    repeat refine AW.seq ?_
    refine AW.reg ?_
    iterate 1 refine AOL.s1 (h := ?_)
    refine AOL.callM (l := 1004) (b := 1004) (c3) rfl (by kernel_rfl) rfl rfl rfl rfl rfl (hst := by simp only [St.drops, St.drop, mapT, mapH, kill, kills, del, St.put, ins, reduceIte, Nat.reduceAdd, Nat.reduceLT, Nat.reduceEqDiff, Bool.false_eq_true]; exact rfl) ?_
    refine AOL.nil ?_
    refine AW.kq [1, 2, 3, 6, 8, 13, 14, 15] (h := ?_)
    repeat refine AW.seq ?_
    refine AW.reg ?_
    iterate 1 refine AOL.s1 (h := ?_)
    refine AOL.callM (l := 1004) (b := 1004) (c4) rfl (by kernel_rfl) rfl rfl rfl rfl rfl (hst := by simp only [St.drops, St.drop, mapT, mapH, kill, kills, del, St.put, ins, reduceIte, Nat.reduceAdd, Nat.reduceLT, Nat.reduceEqDiff, Bool.false_eq_true]; exact rfl) ?_
    refine AOL.nil ?_
    refine AW.kq [1, 2, 3, 6, 8, 13, 14, 15] (h := ?_)
    repeat refine AW.seq ?_
    refine AW.reg ?_
    iterate 1 refine AOL.s1 (h := ?_)
    refine AOL.callM (l := 1004) (b := 1004) (c5) rfl (by kernel_rfl) rfl rfl rfl rfl rfl (hst := by simp only [St.drops, St.drop, mapT, mapH, kill, kills, del, St.put, ins, reduceIte, Nat.reduceAdd, Nat.reduceLT, Nat.reduceEqDiff, Bool.false_eq_true]; exact rfl) ?_
    refine AOL.nil ?_
    refine AW.kq [1, 2, 3, 6, 8, 13, 14, 15] (h := ?_)
    repeat refine AW.seq ?_
    refine AW.reg ?_
    iterate 2 refine AOL.s1 (h := ?_)
    refine AOL.callM (l := 1004) (b := 1004) (c6) rfl (by kernel_rfl) rfl rfl rfl rfl rfl (hst := by simp only [St.drops, St.drop, mapT, mapH, kill, kills, del, St.put, ins, reduceIte, Nat.reduceAdd, Nat.reduceLT, Nat.reduceEqDiff, Bool.false_eq_true]; exact rfl) ?_
    refine AOL.nil ?_
    refine AW.kq [1, 2, 3, 6, 8, 13, 14, 15] (h := ?_)
    repeat refine AW.seq ?_
    refine AW.reg ?_
    iterate 7 refine AOL.s1 (h := ?_)
    refine AOL.fz 2168 rfl (fun h => by cases h) (h := ?_)
    refine AOL.callM (l := 1004) (b := 1004) (c7) rfl (by kernel_rfl) rfl rfl rfl rfl rfl (hst := by simp only [St.drops, St.drop, mapT, mapH, kill, kills, del, St.put, ins, reduceIte, Nat.reduceAdd, Nat.reduceLT, Nat.reduceEqDiff, Bool.false_eq_true]; exact rfl) ?_
    refine AOL.nil ?_
    refine AW.kq [1, 2, 3, 6, 8, 13, 14, 15] (h := ?_)
    repeat refine AW.seq ?_
    refine AW.reg ?_
    iterate 1 refine AOL.s1 (h := ?_)
    refine AOL.callDone (l := 1004) (b := 1004) (⟨Mok.mono o5 (by decide), gd5⟩) rfl rfl rfl rfl (hst := by simp only [St.drops, St.drop, mapT, mapH, kill, kills, del, St.put, ins, reduceIte, Nat.reduceAdd, Nat.reduceLT, Nat.reduceEqDiff, Bool.false_eq_true]; exact rfl) ?_
    iterate 4 refine AOL.s1 (h := ?_)
    refine AOL.nil ?_
    refine AW.kq [1, 2, 3, 6, 12, 13, 14, 15] (h := ?_)
    repeat refine AW.seq ?_
    refine AW.reg ?_
    iterate 3 refine AOL.s1 (h := ?_)
    refine AOL.nil ?_
    refine AW.kq [1, 2, 3, 6, 13, 14, 15, 16] (h := ?_)
    repeat refine AW.seq ?_
    refine AW.reg ?_
    iterate 6 refine AOL.s1 (h := ?_)
    skip
    iterate 6 refine AOL.s1 (h := ?_)
    refine AOL.nil ?_
    refine AW.kq [1, 2, 6, 13, 14, 15, 16, 93] (h := ?_)
    repeat refine AW.seq ?_
    refine AW.cond rfl (fun c_ => ?_) (fun c_ => ?_)
    · simp at c_
    clear w_3 nb c_ c1 c2 c3 c4 c5 c6 c7 gd0 gd1 gd2 gd5
    have da1 := atV_drop (V := V) (j := 1) (by omega)
    have ba1 : (0:Int) ≤ 1 := by decide
    have la1 : (1:Int) < V.length := by omega
    have ta1 : Int.toNat 1 = 1 := rfl
    have da2 := atV_drop (V := V) (j := 2) (by omega)
    have ba2 : (0:Int) ≤ 2 := by decide
    have la2 : (2:Int) < V.length := by omega
    have ta2 : Int.toNat 2 = 2 := rfl
    have da3 := atV_drop (V := V) (j := 3) (by omega)
    have ba3 : (0:Int) ≤ 3 := by decide
    have la3 : (3:Int) < V.length := by omega
    have ta3 : Int.toNat 3 = 3 := rfl
    have da4 := atV_drop (V := V) (j := 4) (by omega)
    have ba4 : (0:Int) ≤ 4 := by decide
    have la4 : (4:Int) < V.length := by omega
    have ta4 : Int.toNat 4 = 4 := rfl
    have dp0 := atV_drop (V := V) (j := Z2.vals.length) (by omega)
    have bp0 : (0:Int) ≤ ((Z2.vals.length : Nat) : Int) := by omega
    have lp0 : ((Z2.vals.length : Nat) : Int) < V.length := by omega
    have dp1 := atV_drop (V := V) (j := (Z2.vals.length + 1)) (by omega)
    have bp1 : (0:Int) ≤ (((Z2.vals.length + 1) : Nat) : Int) := by omega
    have lp1 : (((Z2.vals.length + 1) : Nat) : Int) < V.length := by omega
    have dp2 := atV_drop (V := V) (j := (Z2.vals.length + 2)) (by omega)
    have bp2 : (0:Int) ≤ (((Z2.vals.length + 2) : Nat) : Int) := by omega
    have lp2 : (((Z2.vals.length + 2) : Nat) : Int) < V.length := by omega
    have dq0 := atV_drop (V := V) (j := Z5.vals.length) (by omega)
    have bq0 : (0:Int) ≤ ((Z5.vals.length : Nat) : Int) := by omega
    have lq0 : ((Z5.vals.length : Nat) : Int) < V.length := by omega
    have dq1 := atV_drop (V := V) (j := (Z5.vals.length + 1)) (by omega)
    have bq1 : (0:Int) ≤ (((Z5.vals.length + 1) : Nat) : Int) := by omega
    have lq1 : (((Z5.vals.length + 1) : Nat) : Int) < V.length := by omega
    have dq2 := atV_drop (V := V) (j := (Z5.vals.length + 2)) (by omega)
    have bq2 : (0:Int) ≤ (((Z5.vals.length + 2) : Nat) : Int) := by omega
    have lq2 : (((Z5.vals.length + 2) : Nat) : Int) < V.length := by omega
    have w5_1 : IntKind.i64.wrap ((Z5.vals.length:Int) + 1) = ((Z5.vals.length + 1 : Nat) : Int) := wrp (j := 1) (by omega)
    have w5_2 : IntKind.i64.wrap ((Z5.vals.length:Int) + 2) = ((Z5.vals.length + 2 : Nat) : Int) := wrp (j := 2) (by omega)
    have wr : IntKind.i64.wrap ((Z0.vals.length:Int) + 4) = (((Z0.vals.length + 4 : Nat)) : Int) := wrp (j := 4) (by have : Z0.vals.length = 11 := l0; omega)
    have dr := atV_drop (V := V) (j := (Z0.vals.length + 4)) (by have : Z0.vals.length = 11 := l0; omega)
    have br : (0:Int) ≤ (((Z0.vals.length + 4) : Nat) : Int) := by omega
    have lr : (((Z0.vals.length + 4) : Nat) : Int) < V.length := by have : Z0.vals.length = 11 := l0; omega
    have ws : IntKind.i64.wrap ((Z1.vals.length:Int) + 4) = (((Z1.vals.length + 4 : Nat)) : Int) := wrp (j := 4) (by omega)
    have ds := atV_drop (V := V) (j := (Z1.vals.length + 4)) (by omega)
    have bs : (0:Int) ≤ (((Z1.vals.length + 4) : Nat) : Int) := by omega
    have ls : (((Z1.vals.length + 4) : Nat) : Int) < V.length := by omega
    have sh_ := shl1 (j := k) (by omega)
    have tk_ : Int.toNat (k:Int) = k := rfl
    refine AW.skip ?_
    repeat refine AW.seq ?_
    refine AW.drw 14 [1272] (by kernel_rfl) (h := ?_)
    iterate 14 refine ADL.dm 1 (h := ?_)
    refine ADL.done hmix rfl rfl (hT := ?_)
    iterate 1 refine AOL.s1 (h := ?_)
    refine AOL.nil ?_
    refine AW.kq [1, 2, 6, 13, 14, 15, 16, 17] (h := ?_)
    repeat refine AW.seq ?_
    refine AW.reg ?_
    iterate 3 refine AOL.s1 (h := ?_)
    refine AOL.callD rfl (ct1) (by kernel_rfl) rfl rfl (h := ?_)
    iterate 3 refine AOL.s1 (h := ?_)
    refine AOL.nil ?_
    refine AW.kq [1, 2, 6, 13, 14, 15, 16, 17] (h := ?_)
    repeat refine AW.seq ?_
    refine AW.reg ?_
    iterate 3 refine AOL.s1 (h := ?_)
    refine AOL.callD rfl (ct2) (by kernel_rfl) rfl rfl (h := ?_)
    iterate 3 refine AOL.s1 (h := ?_)
    refine AOL.nil ?_
    refine AW.kq [1, 2, 6, 13, 14, 15, 16, 17] (h := ?_)
    repeat refine AW.seq ?_
    refine AW.drw 16 [] (by kernel_rfl) (h := ?_)
    iterate 16 refine ADL.dm 1 (h := ?_)
    refine ADL.done hmix rfl rfl (hT := ?_)
    iterate 2 refine AOL.s1 (h := ?_)
    refine AOL.nil ?_
    refine AW.kq [1, 2, 6, 13, 14, 16, 17] (h := ?_)
    repeat refine AW.seq ?_
    refine AW.drw 16 [] (by kernel_rfl) (h := ?_)
    iterate 16 refine ADL.dm 1 (h := ?_)
    refine ADL.done hmix rfl rfl (hT := ?_)
    iterate 2 refine AOL.s1 (h := ?_)
    refine AOL.nil ?_
    refine AW.kq [1, 2, 6, 13, 14, 17] (h := ?_)
    repeat refine AW.seq ?_
    have e15 : id (atV V 15 = atV V (Z0.vals.length + 4)) := by show _ = _; rw [show Z0.vals.length = 11 from l0]
    have eR : id (rdM V k Z1.vals.length Z2.vals.length Z5.vals.length = ⟨atV V 1, atV V 2, atV V 3, atV V 4, takI V Z0.vals.length k, takI V Z1.vals.length k, (atV V Z2.vals.length, atV V (Z2.vals.length + 1), atV V (Z2.vals.length + 2)), (atV V Z5.vals.length, atV V (Z5.vals.length + 1), atV V (Z5.vals.length + 2))⟩) := by show _ = _; unfold rdM; rw [show Z0.vals.length = 11 from l0]
    have hbb : decide (atV V (Z0.vals.length + 4) < 2 ^ k) = true ∨ decide (atV V (Z0.vals.length + 4) < 2 ^ k) = false := by cases decide (atV V (Z0.vals.length + 4) < 2 ^ k) <;> simp
    refine AW.let 1004 (h := ?_)
    refine AW.let 1005 (h := ?_)
    refine AW.let 1006 (h := ?_)
    refine AW.let 1007 (h := ?_)
    refine AW.let 1048 (h := ?_)
    refine AW.let 1160 (h := ?_)
    refine AW.let 1176 (h := ?_)
    rcases hbb with hb | hb
    · refine AW.dM 20 [(1272, ⟨31, true, [u (atV V 1), u (atV V 2), u (atV V 3), u (atV V 4), u (takI V Z0.vals.length k).k, u (takI V Z0.vals.length k).n.1, u (takI V Z0.vals.length k).n.2.1, u (takI V Z0.vals.length k).n.2.2, i (takI V Z0.vals.length k).a, ul (takI V Z0.vals.length k).p, u (takI V Z1.vals.length k).k, u (takI V Z1.vals.length k).n.1, u (takI V Z1.vals.length k).n.2.1, u (takI V Z1.vals.length k).n.2.2, i (takI V Z1.vals.length k).a, ul (takI V Z1.vals.length k).p, u (atV V Z2.vals.length), u (atV V (Z2.vals.length + 1)), u (atV V (Z2.vals.length + 2)), u (atV V Z5.vals.length), u (atV V (Z5.vals.length + 1)), u (atV V (Z5.vals.length + 2))]⟩)] [] (by kernel_rfl) (h := ?_)
      iterate 19 refine ADM.dm (h := ?_)
      refine ADM.cut (v := .tup []) (hnew := [(1096, ⟨31, true, [u (atV V 1), u (atV V 2), u (atV V 3), u (atV V 4), u (takI V Z0.vals.length k).k, u (takI V Z0.vals.length k).n.1, u (takI V Z0.vals.length k).n.2.1, u (takI V Z0.vals.length k).n.2.2, i (takI V Z0.vals.length k).a, ul (takI V Z0.vals.length k).p, u (takI V Z1.vals.length k).k, u (takI V Z1.vals.length k).n.1, u (takI V Z1.vals.length k).n.2.1, u (takI V Z1.vals.length k).n.2.2, i (takI V Z1.vals.length k).a, ul (takI V Z1.vals.length k).p, u (atV V Z2.vals.length), u (atV V (Z2.vals.length + 1)), u (atV V (Z2.vals.length + 2)), u (atV V Z5.vals.length), u (atV V (Z5.vals.length + 1)), u (atV V (Z5.vals.length + 2))]⟩), (1272, ⟨31, true, [u (atV V 1), u (atV V 2), u (atV V 3), u (atV V 4), u (takI V Z0.vals.length k).k, u (takI V Z0.vals.length k).n.1, u (takI V Z0.vals.length k).n.2.1, u (takI V Z0.vals.length k).n.2.2, i (takI V Z0.vals.length k).a, ul (takI V Z0.vals.length k).p, u (takI V Z1.vals.length k).k, u (takI V Z1.vals.length k).n.1, u (takI V Z1.vals.length k).n.2.1, u (takI V Z1.vals.length k).n.2.2, i (takI V Z1.vals.length k).a, ul (takI V Z1.vals.length k).p, u (atV V Z2.vals.length), u (atV V (Z2.vals.length + 1)), u (atV V (Z2.vals.length + 2)), u (atV V Z5.vals.length), u (atV V (Z5.vals.length + 1)), u (atV V (Z5.vals.length + 2))]⟩)]) ?_ (h := ?_)
      · rintro vw rfl
        refine .inr ⟨rfl, rfl, fun T K' hK => ?_⟩
        refine AOL.s1 (h := ?_)
        refine AOL.nil ?_
        exact hK
      refine ADM.done hmix (by kernel_rfl) rfl (by simp only [chainP, and_self, and_true]) rfl ⟨by simp [List.forall_mem_cons], by simp [List.forall_mem_cons]⟩ (fun l_ hl_ => by cases hl_) (fun l_ hl_ => by cases hl_) (hT := ?_)
      iterate 1 refine AOL.s1 (h := ?_)
      refine AOL.nil ?_
      refine AW.kq [6, 7] (h := ?_)
      repeat refine AW.seq ?_
      refine AW.ret ?_
      refine ⟨_, [], rfl, HOk.nil _, ?_⟩
      rw [show _ = _ from eR, show atV V 15 = _ from e15, hb, Bool.true_and]
      rfl
    · refine AW.dM 20 [(1272, ⟨31, true, [u (atV V 1), u (atV V 2), u (atV V 3), u (atV V 4), u (takI V Z0.vals.length k).k, u (takI V Z0.vals.length k).n.1, u (takI V Z0.vals.length k).n.2.1, u (takI V Z0.vals.length k).n.2.2, i (takI V Z0.vals.length k).a, ul (takI V Z0.vals.length k).p, u (takI V Z1.vals.length k).k, u (takI V Z1.vals.length k).n.1, u (takI V Z1.vals.length k).n.2.1, u (takI V Z1.vals.length k).n.2.2, i (takI V Z1.vals.length k).a, ul (takI V Z1.vals.length k).p, u (atV V Z2.vals.length), u (atV V (Z2.vals.length + 1)), u (atV V (Z2.vals.length + 2)), u (atV V Z5.vals.length), u (atV V (Z5.vals.length + 1)), u (atV V (Z5.vals.length + 2))]⟩)] [] (by kernel_rfl) (h := ?_)
      iterate 19 refine ADM.dm (h := ?_)
      refine ADM.cut (v := .tup []) (hnew := [(1096, ⟨31, true, [u (atV V 1), u (atV V 2), u (atV V 3), u (atV V 4), u (takI V Z0.vals.length k).k, u (takI V Z0.vals.length k).n.1, u (takI V Z0.vals.length k).n.2.1, u (takI V Z0.vals.length k).n.2.2, i (takI V Z0.vals.length k).a, ul (takI V Z0.vals.length k).p, u (takI V Z1.vals.length k).k, u (takI V Z1.vals.length k).n.1, u (takI V Z1.vals.length k).n.2.1, u (takI V Z1.vals.length k).n.2.2, i (takI V Z1.vals.length k).a, ul (takI V Z1.vals.length k).p, u (atV V Z2.vals.length), u (atV V (Z2.vals.length + 1)), u (atV V (Z2.vals.length + 2)), u (atV V Z5.vals.length), u (atV V (Z5.vals.length + 1)), u (atV V (Z5.vals.length + 2))]⟩), (1272, ⟨31, true, [u (atV V 1), u (atV V 2), u (atV V 3), u (atV V 4), u (takI V Z0.vals.length k).k, u (takI V Z0.vals.length k).n.1, u (takI V Z0.vals.length k).n.2.1, u (takI V Z0.vals.length k).n.2.2, i (takI V Z0.vals.length k).a, ul (takI V Z0.vals.length k).p, u (takI V Z1.vals.length k).k, u (takI V Z1.vals.length k).n.1, u (takI V Z1.vals.length k).n.2.1, u (takI V Z1.vals.length k).n.2.2, i (takI V Z1.vals.length k).a, ul (takI V Z1.vals.length k).p, u (atV V Z2.vals.length), u (atV V (Z2.vals.length + 1)), u (atV V (Z2.vals.length + 2)), u (atV V Z5.vals.length), u (atV V (Z5.vals.length + 1)), u (atV V (Z5.vals.length + 2))]⟩)]) ?_ (h := ?_)
      · rintro vw rfl
        refine .inr ⟨rfl, rfl, fun T K' hK => ?_⟩
        refine AOL.s1 (h := ?_)
        refine AOL.nil ?_
        exact hK
      refine ADM.done hmix (by kernel_rfl) rfl (by simp only [chainP, and_self, and_true]) rfl ⟨by simp [List.forall_mem_cons], by simp [List.forall_mem_cons]⟩ (fun l_ hl_ => by cases hl_) (fun l_ hl_ => by cases hl_) (hT := ?_)
      iterate 1 refine AOL.s1 (h := ?_)
      refine AOL.nil ?_
      refine AW.kq [6, 7] (h := ?_)
      repeat refine AW.seq ?_
      refine AW.ret ?_
      refine ⟨_, [], rfl, HOk.nil _, ?_⟩
      rw [show _ = _ from eR, show atV V 15 = _ from e15, hb, Bool.false_and]
      rfl
end Go.Proofs.YtngphcdhdllnnaaGreat.E.M
end
section
/- circuit.Right: whether a move is right: a contract over E. -/
set_option linter.unusedVariables false
set_option linter.unusedSimpArgs false
set_option maxRecDepth 10000
open Go Go.Proofs.YtngphcdhdllnnaaGreat.E Go.Proofs
namespace Go.Proofs.YtngphcdhdllnnaaGreat.E.M
def inOk (r : Int) (x : Ip) : Bool := decide (x.n.2.1 = twoH x.k 2) && (decide (x.n.1 = 0) || decide (climbH x.p (nonneg x.a) (mrkH x.n) = r))
set_option maxHeartbeats 16000000 in
theorem circuit_Right_c {m : Mv} {d : Int} (hm : wM m) (hx : -9223372036854775808 ≤ m.x.a ∧ -9223372036854775808 ≤ m.y.a) : Fn Tryz.prog 25 [.agg (mvc m), i d] [] (fun r _ => r = if fitsH m d = true then .tup [bo (rightH m), .val .nilIface] else .tup [bo false, errA]) := by
  have cF := circuit_fits_c (d := d) hm
  have hR : rightH m = (((inOk m.r m.x && inOk m.r m.y) && decide (m.p.1 < 4294967296) && decide (m.q.1 < 4294967296)) && decide (rAdd (rAdd m.i m.x.n.1) m.y.n.1 = rAdd (rAdd m.o m.p.1) m.q.1)) := by
    unfold rightH okI inOk
    ac_rfl
  rw [hR]
  clear hR
  have hP : fitsH m d = true → (m.x.p.length < 1000000000 ∧ m.y.p.length < 1000000000) := by
    intro h
    simp only [fitsH, inF, hdF, Bool.and_eq_true, decide_eq_true_eq] at h
    omega
  generalize fitsH m d = ft at *
  obtain ⟨mr, mi, mo, ms, ⟨xk, ⟨xv, xo, xr⟩, xa, xp⟩, ⟨yk, ⟨yv, yo, yr⟩, ya, yp⟩, ⟨pv, po, pr⟩, ⟨qv, qo, qr⟩⟩ := m
  obtain ⟨w1, w2, w3, w4, ⟨x1, ⟨x2, x3, x4⟩, x5, x6, x7⟩, ⟨y1, ⟨y2, y3, y4⟩, y5, y6, y7⟩, ⟨p1, p2, p3⟩, ⟨q1, q2, q3⟩⟩ := hm
  simp only at w1 w2 w3 w4 x1 x2 x3 x4 x5 x6 x7 y1 y2 y3 y4 y5 y6 y7 p1 p2 p3 q1 q2 q3 hx hP
  simp only
  have n0 : Int.toNat 0 = 0 := rfl
  have n1 : Int.toNat 1 = 1 := rfl
  have q0 : (0:Int) ≤ 0 := by decide
  have q1' : (0:Int) ≤ 1 := by decide
  have x02 : (0:Int) < ((2:Nat):Int) := by decide
  have x12 : (1:Int) < ((2:Nat):Int) := by decide
  have z02 : (0:Int) < 2 := by decide
  have z12 : (1:Int) < 2 := by decide
  have a1 : IntKind.i64.wrap (0 + 1) = 1 := by decide
  have a2 : IntKind.i64.wrap (1 + 1) = 2 := by decide
  have i02 : decide ((0:Int) < 2) = true := rfl
  have i12 : decide ((1:Int) < 2) = true := rfl
  have i22 : decide ((2:Int) < 2) = false := rfl
  have cA : ∀ {a b : Int}, w64 a → w64 b → Fn Tryz.prog 58 [u 288230376287764481, u a, u b] [] (fun r _ => r = u (rAdd a b)) := fun ha hb => modular_Add_c (by constructor <;> decide) ha hb
  show Fn Tryz.prog 25 [.agg [u mr, u mi, u mo, u ms, u xk, u xv, u xo, u xr, i xa, ul xp, u yk, u yv, u yo, u yr, i ya, ul yp, u pv, u po, u pr, u qv, u qo, u qr], i d] [] _
  replace cF : Fn Tryz.prog 54 [.agg [u mr, u mi, u mo, u ms, u xk, u xv, u xo, u xr, i xa, ul xp, u yk, u yv, u yo, u yr, i ya, ul yp, u pv, u po, u pr, u qv, u qo, u qr], i d] [] (fun r _ => r = bo ft) := cF
  refine Fn.enter Tryz.func25 Tryz.ntmps25 rfl (h := ?_)
  have tf := tfv
  have tfr := tfr
  have ot_ : (false || true) = true := rfl
  repeat refine AW.seq ?_
  refine AW.reg ?_
  iterate 3 refine AOL.s1 (h := ?_)
  refine AOL.nil ?_
  refine AW.kq [1, 2] (h := ?_)
  repeat refine AW.seq ?_
  refine AW.reg ?_
  iterate 2 refine AOL.s1 (h := ?_)
  refine AOL.callD rfl (cF) (by kernel_rfl) rfl rfl (h := ?_)
  iterate 1 refine AOL.s1 (h := ?_)
  refine AOL.nil ?_
  refine AW.kq [2, 16] (h := ?_)
  repeat refine AW.seq ?_
  refine AW.cond rfl (fun c_ => ?_) (fun c_ => ?_)
  · have e : ft = false := by simpa using c_
    repeat refine AW.seq ?_
    refine AW.reg ?_
    iterate 3 refine AOL.s1 (h := ?_)
    refine AOL.nil ?_
    refine AW.kq [4, 5] (h := ?_)
    repeat refine AW.seq ?_
    refine AW.ret ?_
    refine ⟨_, [], rfl, HOk.nil _, ?_⟩
    rw [e]; rfl
  have e : ft = true := by simpa using c_
  obtain ⟨xl, yl⟩ := hP e
  rw [if_pos e]
  clear c_ e cF hP
  refine AW.skip ?_
  repeat refine AW.seq ?_
  refine AW.reg ?_
  iterate 1 refine AOL.s1 (h := ?_)
  refine AOL.nil ?_
  refine AW.kq [2, 6] (h := ?_)
  repeat refine AW.seq ?_
  refine AW.drw 5 [] (by kernel_rfl) (h := ?_)
  iterate 5 refine ADL.dm 1 (h := ?_)
  refine ADL.done hmix rfl rfl (hT := ?_)
  iterate 1 refine AOL.s1 (h := ?_)
  refine AOL.nil ?_
  refine AW.kq [2, 6, 7, 8] (h := ?_)
  repeat refine AW.seq ?_
  refine AW.reg ?_
  iterate 3 refine AOL.s1 (h := ?_)
  refine AOL.nil ?_
  refine AW.kq [2, 6, 7, 8, 23, 24] (h := ?_)
  repeat refine AW.seq ?_
  refine AW.block ?_
  repeat refine AW.seq ?_
  obtain ⟨b0, hb0⟩ : ∃ b : Bool, b = true := ⟨_, rfl⟩
  conv in (6, _) => rw [← hb0]
  replace hb0 : id (b0 = true) := hb0
  obtain ⟨s0, hs0⟩ : ∃ b : Int, b = mi := ⟨_, rfl⟩
  have ws0 : w64 s0 := by rw [hs0]; exact w2
  conv in (7, _) => rw [← hs0]
  replace hs0 : id (s0 = mi) := hs0
  refine AW.rounds ?_
  refine AWin.next [2, 6, 7, 8, 23, 24] (h := ?_)
  repeat refine AW.seq ?_
  refine AW.reg ?_
  iterate 1 refine AOL.s1 (h := ?_)
  refine AOL.nil ?_
  refine AW.kq [2, 6, 7, 8, 23, 24, 25] (h := ?_)
  repeat refine AW.seq ?_
  refine AW.cond rfl (fun c_ => ?_) (fun c_ => ?_)
  rotate_left
  · cases c_
  refine AW.skip ?_
  repeat refine AW.seq ?_
  refine AW.block ?_
  repeat refine AW.seq ?_
  refine AW.reg ?_
  iterate 3 refine AOL.s1 (h := ?_)
  refine AOL.nil ?_
  refine AW.kq [2, 6, 7, 8, 10, 23, 24] (h := ?_)
  repeat refine AW.seq ?_
  refine AW.midK [2, 6, 7, 8, 10, 23, 24] (fun t => t = ⟨84, [(2, .ptr 1032 0), (6, bo (b0 && inOk mr ⟨xk, (xv, xo, xr), xa, xp⟩)), (7, u s0), (8, u mo), (10, .ptr 1160 0), (23, .agg [u xk, u xv, u xo, u xr, i xa, ul xp, u yk, u yv, u yo, u yr, i ya, ul yp]), (24, i 0)], [(1032, ⟨31, true, [u mr, u mi, u mo, u ms, u xk, u xv, u xo, u xr, i xa, ul xp, u yk, u yv, u yo, u yr, i ya, ul yp, u pv, u po, u pr, u qv, u qo, u qr]⟩), (1160, ⟨27, true, [u xk, u xv, u xo, u xr, i xa, ul xp]⟩)]⟩) ?_ ?_
  · have cT := cube_Two_c (a := xk) (b := 2) x1 (by decide)
    have cM := circuit_mark_c (n := (xv, xo, xr)) ⟨x2, x3, x4⟩
    have cC := tree_Climb_c (h := mrkH (xv, xo, xr)) (n := xa) (V := xp) (manyH_w _) ⟨hx.1, x5⟩ x6 xl
    cases b0 with
    | false =>
      refine AW.drw 26 [] (by kernel_rfl) (h := ?_)
      iterate 26 refine ADL.dm 1 (h := ?_)
      refine ADL.done hmix rfl rfl (hT := ?_)
      iterate 4 refine AOL.s1 (h := ?_)
      refine AOL.nil ?_
      exact rfl
    | true =>
      cases g1 : (xo == twoH xk 2) with
      | false =>
        refine AW.drw 26 [] (by kernel_rfl) (h := ?_)
        iterate 7 refine ADL.dm 1 (h := ?_)
        refine ADL.call rfl (cT) (by kernel_rfl) rfl rfl (h := ?_)
        iterate 18 refine ADL.dm 1 (h := ?_)
        refine ADL.done hmix rfl rfl (hT := ?_)
        iterate 4 refine AOL.s1 (h := ?_)
        refine AOL.nil ?_
        rw [show inOk mr ⟨xk, (xv, xo, xr), xa, xp⟩ = false by unfold inOk; rw [show decide (xo = twoH xk 2) = _ from g1]; rfl]
        exact rfl
      | true =>
        cases g2 : (xv == 0) with
        | true =>
          refine AW.drw 26 [] (by kernel_rfl) (h := ?_)
          iterate 7 refine ADL.dm 1 (h := ?_)
          refine ADL.call rfl (cT) (by kernel_rfl) rfl rfl (h := ?_)
          iterate 18 refine ADL.dm 1 (h := ?_)
          refine ADL.done hmix rfl rfl (hT := ?_)
          iterate 4 refine AOL.s1 (h := ?_)
          refine AOL.nil ?_
          rw [show inOk mr ⟨xk, (xv, xo, xr), xa, xp⟩ = true by unfold inOk; rw [show decide (xo = twoH xk 2) = _ from g1, show decide (xv = 0) = _ from g2]; rfl]
          exact rfl
        | false =>
          refine AW.drw 26 [] (by kernel_rfl) (h := ?_)
          iterate 7 refine ADL.dm 1 (h := ?_)
          refine ADL.call rfl (cT) (by kernel_rfl) rfl rfl (h := ?_)
          iterate 10 refine ADL.dm 1 (h := ?_)
          refine ADL.call rfl (cM) (by kernel_rfl) rfl rfl (h := ?_)
          iterate 4 refine ADL.dm 1 (h := ?_)
          refine ADL.call rfl (cC) (by kernel_rfl) rfl rfl (h := ?_)
          iterate 2 refine ADL.dm 1 (h := ?_)
          refine ADL.done hmix rfl rfl (hT := ?_)
          iterate 4 refine AOL.s1 (h := ?_)
          refine AOL.nil ?_
          rw [show inOk mr ⟨xk, (xv, xo, xr), xa, xp⟩ = (climbH xp (nonneg xa) (mrkH (xv, xo, xr)) == mr) by unfold inOk; rw [show decide (xo = twoH xk 2) = _ from g1, show decide (xv = 0) = _ from g2]; simp only [Bool.true_and, Bool.false_or]; rfl]
          simp only [Bool.true_and]
          exact rfl
  rintro t rfl
  repeat refine AW.seq ?_
  refine AW.reg ?_
  iterate 4 refine AOL.s1 (h := ?_)
  refine AOL.callD rfl (cA ws0 x2) (by kernel_rfl) rfl rfl (h := ?_)
  iterate 1 refine AOL.s1 (h := ?_)
  refine AOL.nil ?_
  repeat refine AW.seq ?_
  refine AW.let 1160 (h := ?_)
  refine AW.reg ?_
  iterate 2 refine AOL.s1 (h := ?_)
  refine AOL.nil ?_
  obtain ⟨b1, hb1⟩ : ∃ b : Bool, id (b = (b0 && inOk mr ⟨xk, (xv, xo, xr), xa, xp⟩)) := ⟨_, rfl⟩
  rw [← show b1 = _ from hb1]
  obtain ⟨s1, hs1⟩ : ∃ s, id (s = rAdd s0 xv) := ⟨_, rfl⟩
  rw [← show s1 = _ from hs1]
  have ws1 : w64 s1 := by rw [show s1 = _ from hs1]; exact (rAdd_l _ _).w
  refine AWin.next [2, 6, 7, 8, 23, 24] (h := ?_)
  repeat refine AW.seq ?_
  refine AW.reg ?_
  iterate 1 refine AOL.s1 (h := ?_)
  refine AOL.nil ?_
  refine AW.kq [2, 6, 7, 8, 23, 24, 25] (h := ?_)
  repeat refine AW.seq ?_
  refine AW.cond rfl (fun c_ => ?_) (fun c_ => ?_)
  rotate_left
  · cases c_
  refine AW.skip ?_
  repeat refine AW.seq ?_
  refine AW.block ?_
  repeat refine AW.seq ?_
  refine AW.reg ?_
  iterate 3 refine AOL.s1 (h := ?_)
  refine AOL.nil ?_
  refine AW.kq [2, 6, 7, 8, 10, 23, 24] (h := ?_)
  repeat refine AW.seq ?_
  refine AW.midK [2, 6, 7, 8, 10, 23, 24] (fun t => t = ⟨84, [(2, .ptr 1032 0), (6, bo (b1 && inOk mr ⟨yk, (yv, yo, yr), ya, yp⟩)), (7, u s1), (8, u mo), (10, .ptr 1160 0), (23, .agg [u xk, u xv, u xo, u xr, i xa, ul xp, u yk, u yv, u yo, u yr, i ya, ul yp]), (24, i 1)], [(1032, ⟨31, true, [u mr, u mi, u mo, u ms, u xk, u xv, u xo, u xr, i xa, ul xp, u yk, u yv, u yo, u yr, i ya, ul yp, u pv, u po, u pr, u qv, u qo, u qr]⟩), (1160, ⟨27, true, [u yk, u yv, u yo, u yr, i ya, ul yp]⟩)]⟩) ?_ ?_
  · have cT := cube_Two_c (a := yk) (b := 2) y1 (by decide)
    have cM := circuit_mark_c (n := (yv, yo, yr)) ⟨y2, y3, y4⟩
    have cC := tree_Climb_c (h := mrkH (yv, yo, yr)) (n := ya) (V := yp) (manyH_w _) ⟨hx.2, y5⟩ y6 yl
    cases b1 with
    | false =>
      refine AW.drw 26 [] (by kernel_rfl) (h := ?_)
      iterate 26 refine ADL.dm 1 (h := ?_)
      refine ADL.done hmix rfl rfl (hT := ?_)
      iterate 4 refine AOL.s1 (h := ?_)
      refine AOL.nil ?_
      exact rfl
    | true =>
      cases g1 : (yo == twoH yk 2) with
      | false =>
        refine AW.drw 26 [] (by kernel_rfl) (h := ?_)
        iterate 7 refine ADL.dm 1 (h := ?_)
        refine ADL.call rfl (cT) (by kernel_rfl) rfl rfl (h := ?_)
        iterate 18 refine ADL.dm 1 (h := ?_)
        refine ADL.done hmix rfl rfl (hT := ?_)
        iterate 4 refine AOL.s1 (h := ?_)
        refine AOL.nil ?_
        rw [show inOk mr ⟨yk, (yv, yo, yr), ya, yp⟩ = false by unfold inOk; rw [show decide (yo = twoH yk 2) = _ from g1]; rfl]
        exact rfl
      | true =>
        cases g2 : (yv == 0) with
        | true =>
          refine AW.drw 26 [] (by kernel_rfl) (h := ?_)
          iterate 7 refine ADL.dm 1 (h := ?_)
          refine ADL.call rfl (cT) (by kernel_rfl) rfl rfl (h := ?_)
          iterate 18 refine ADL.dm 1 (h := ?_)
          refine ADL.done hmix rfl rfl (hT := ?_)
          iterate 4 refine AOL.s1 (h := ?_)
          refine AOL.nil ?_
          rw [show inOk mr ⟨yk, (yv, yo, yr), ya, yp⟩ = true by unfold inOk; rw [show decide (yo = twoH yk 2) = _ from g1, show decide (yv = 0) = _ from g2]; rfl]
          exact rfl
        | false =>
          refine AW.drw 26 [] (by kernel_rfl) (h := ?_)
          iterate 7 refine ADL.dm 1 (h := ?_)
          refine ADL.call rfl (cT) (by kernel_rfl) rfl rfl (h := ?_)
          iterate 10 refine ADL.dm 1 (h := ?_)
          refine ADL.call rfl (cM) (by kernel_rfl) rfl rfl (h := ?_)
          iterate 4 refine ADL.dm 1 (h := ?_)
          refine ADL.call rfl (cC) (by kernel_rfl) rfl rfl (h := ?_)
          iterate 2 refine ADL.dm 1 (h := ?_)
          refine ADL.done hmix rfl rfl (hT := ?_)
          iterate 4 refine AOL.s1 (h := ?_)
          refine AOL.nil ?_
          rw [show inOk mr ⟨yk, (yv, yo, yr), ya, yp⟩ = (climbH yp (nonneg ya) (mrkH (yv, yo, yr)) == mr) by unfold inOk; rw [show decide (yo = twoH yk 2) = _ from g1, show decide (yv = 0) = _ from g2]; simp only [Bool.true_and, Bool.false_or]; rfl]
          simp only [Bool.true_and]
          exact rfl
  rintro t rfl
  repeat refine AW.seq ?_
  refine AW.reg ?_
  iterate 4 refine AOL.s1 (h := ?_)
  refine AOL.callD rfl (cA ws1 y2) (by kernel_rfl) rfl rfl (h := ?_)
  iterate 1 refine AOL.s1 (h := ?_)
  refine AOL.nil ?_
  repeat refine AW.seq ?_
  refine AW.let 1160 (h := ?_)
  refine AW.reg ?_
  iterate 2 refine AOL.s1 (h := ?_)
  refine AOL.nil ?_
  obtain ⟨b2, hb2⟩ : ∃ b : Bool, id (b = (b1 && inOk mr ⟨yk, (yv, yo, yr), ya, yp⟩)) := ⟨_, rfl⟩
  rw [← show b2 = _ from hb2]
  obtain ⟨s2, hs2⟩ : ∃ s, id (s = rAdd s1 yv) := ⟨_, rfl⟩
  rw [← show s2 = _ from hs2]
  have ws2 : w64 s2 := by rw [show s2 = _ from hs2]; exact (rAdd_l _ _).w
  refine AWin.next [2, 6, 7, 8, 23, 24] (h := ?_)
  repeat refine AW.seq ?_
  refine AW.reg ?_
  iterate 1 refine AOL.s1 (h := ?_)
  refine AOL.nil ?_
  refine AW.kq [2, 6, 7, 8, 23, 24, 25] (h := ?_)
  repeat refine AW.seq ?_
  refine AW.cond rfl (fun c_ => ?_) (fun c_ => ?_)
  · cases c_
  repeat refine AW.seq ?_
  refine AW.exit ?_
  repeat (first | refine Kseq.ex ?_ | refine Kloop.ex ?_ | refine Kblock.miss (by decide) ?_)
  refine Kblock.hit ?_
  refine AW.kq [2, 6, 7, 8] (h := ?_)
  repeat refine AW.seq ?_
  refine AW.reg ?_
  iterate 3 refine AOL.s1 (h := ?_)
  refine AOL.nil ?_
  refine AW.kq [6, 7, 8, 63, 64] (h := ?_)
  refine AW.let 1032 (h := ?_)
  repeat refine AW.seq ?_
  refine AW.block ?_
  repeat refine AW.seq ?_
  have wt0 : w64 mo := w3
  refine AW.rounds ?_
  refine AWin.next [6, 7, 8, 63, 64] (h := ?_)
  repeat refine AW.seq ?_
  refine AW.reg ?_
  iterate 1 refine AOL.s1 (h := ?_)
  refine AOL.nil ?_
  refine AW.kq [6, 7, 8, 63, 64, 65] (h := ?_)
  repeat refine AW.seq ?_
  refine AW.cond rfl (fun c_ => ?_) (fun c_ => ?_)
  rotate_left
  · cases c_
  refine AW.skip ?_
  repeat refine AW.seq ?_
  refine AW.block ?_
  repeat refine AW.seq ?_
  refine AW.reg ?_
  iterate 3 refine AOL.s1 (h := ?_)
  refine AOL.nil ?_
  refine AW.kq [6, 7, 8, 12, 63, 64] (h := ?_)
  repeat refine AW.seq ?_
  refine AW.midK [6, 7, 8, 12, 63, 64] (fun t => t = ⟨84, [(6, bo (b2 && decide (pv < 4294967296))), (7, u s2), (8, u mo), (12, .ptr 1192 0), (63, .agg [u pv, u po, u pr, u qv, u qo, u qr]), (64, i 0)], [(1192, ⟨24, true, [u pv, u po, u pr]⟩)]⟩) ?_ ?_
  · cases b2 with
    | false =>
      refine AW.reg ?_
      iterate 7 refine AOL.s1 (h := ?_)
      refine AOL.nil ?_
      exact rfl
    | true =>
      refine AW.reg ?_
      iterate 7 refine AOL.s1 (h := ?_)
      refine AOL.nil ?_
      rw [show (true && decide (pv < 4294967296)) = decide (pv < 4294967296) from Bool.true_and _]
      exact rfl
  rintro t rfl
  repeat refine AW.seq ?_
  refine AW.reg ?_
  iterate 3 refine AOL.s1 (h := ?_)
  refine AOL.callD rfl (cA wt0 p1) (by kernel_rfl) rfl rfl (h := ?_)
  iterate 1 refine AOL.s1 (h := ?_)
  refine AOL.nil ?_
  repeat refine AW.seq ?_
  refine AW.let 1192 (h := ?_)
  refine AW.reg ?_
  iterate 2 refine AOL.s1 (h := ?_)
  refine AOL.nil ?_
  obtain ⟨b3, hb3⟩ : ∃ b : Bool, id (b = (b2 && decide (pv < 4294967296))) := ⟨_, rfl⟩
  rw [← show b3 = _ from hb3]
  obtain ⟨t1, ht1⟩ : ∃ s, id (s = rAdd mo pv) := ⟨_, rfl⟩
  rw [← show t1 = _ from ht1]
  have wt1 : w64 t1 := by rw [show t1 = _ from ht1]; exact (rAdd_l _ _).w
  refine AWin.next [6, 7, 8, 63, 64] (h := ?_)
  repeat refine AW.seq ?_
  refine AW.reg ?_
  iterate 1 refine AOL.s1 (h := ?_)
  refine AOL.nil ?_
  refine AW.kq [6, 7, 8, 63, 64, 65] (h := ?_)
  repeat refine AW.seq ?_
  refine AW.cond rfl (fun c_ => ?_) (fun c_ => ?_)
  rotate_left
  · cases c_
  refine AW.skip ?_
  repeat refine AW.seq ?_
  refine AW.block ?_
  repeat refine AW.seq ?_
  refine AW.reg ?_
  iterate 3 refine AOL.s1 (h := ?_)
  refine AOL.nil ?_
  refine AW.kq [6, 7, 8, 12, 63, 64] (h := ?_)
  repeat refine AW.seq ?_
  refine AW.midK [6, 7, 8, 12, 63, 64] (fun t => t = ⟨84, [(6, bo (b3 && decide (qv < 4294967296))), (7, u s2), (8, u t1), (12, .ptr 1192 0), (63, .agg [u pv, u po, u pr, u qv, u qo, u qr]), (64, i 1)], [(1192, ⟨24, true, [u qv, u qo, u qr]⟩)]⟩) ?_ ?_
  · cases b3 with
    | false =>
      refine AW.reg ?_
      iterate 7 refine AOL.s1 (h := ?_)
      refine AOL.nil ?_
      exact rfl
    | true =>
      refine AW.reg ?_
      iterate 7 refine AOL.s1 (h := ?_)
      refine AOL.nil ?_
      rw [show (true && decide (qv < 4294967296)) = decide (qv < 4294967296) from Bool.true_and _]
      exact rfl
  rintro t rfl
  repeat refine AW.seq ?_
  refine AW.reg ?_
  iterate 3 refine AOL.s1 (h := ?_)
  refine AOL.callD rfl (cA wt1 q1) (by kernel_rfl) rfl rfl (h := ?_)
  iterate 1 refine AOL.s1 (h := ?_)
  refine AOL.nil ?_
  repeat refine AW.seq ?_
  refine AW.let 1192 (h := ?_)
  refine AW.reg ?_
  iterate 2 refine AOL.s1 (h := ?_)
  refine AOL.nil ?_
  obtain ⟨b4, hb4⟩ : ∃ b : Bool, id (b = (b3 && decide (qv < 4294967296))) := ⟨_, rfl⟩
  rw [← show b4 = _ from hb4]
  obtain ⟨t2, ht2⟩ : ∃ s, id (s = rAdd t1 qv) := ⟨_, rfl⟩
  rw [← show t2 = _ from ht2]
  have wt2 : w64 t2 := by rw [show t2 = _ from ht2]; exact (rAdd_l _ _).w
  refine AWin.next [6, 7, 8, 63, 64] (h := ?_)
  repeat refine AW.seq ?_
  refine AW.reg ?_
  iterate 1 refine AOL.s1 (h := ?_)
  refine AOL.nil ?_
  refine AW.kq [6, 7, 8, 63, 64, 65] (h := ?_)
  repeat refine AW.seq ?_
  refine AW.cond rfl (fun c_ => ?_) (fun c_ => ?_)
  · cases c_
  repeat refine AW.seq ?_
  refine AW.exit ?_
  repeat (first | refine Kseq.ex ?_ | refine Kloop.ex ?_ | refine Kblock.miss (by decide) ?_)
  refine Kblock.hit ?_
  refine AW.kq [6, 7, 8] (h := ?_)
  repeat refine AW.seq ?_
  have e : id ((((inOk mr ⟨xk, (xv, xo, xr), xa, xp⟩ && inOk mr ⟨yk, (yv, yo, yr), ya, yp⟩) && decide (pv < 4294967296)) && decide (qv < 4294967296)) = b4) := by
    rw [show b4 = _ from hb4, show b3 = _ from hb3, show b2 = _ from hb2, show b1 = _ from hb1, show b0 = _ from hb0]
    rfl
  have es : id (rAdd (rAdd mi xv) yv = s2) := by rw [show s2 = _ from hs2, show s1 = _ from hs1, show s0 = _ from hs0]; rfl
  clear hb4 hb3 hb2 hb1 hb0 hs2 hs1 hs0 ht2 ht1
  cases b4 with
  | false =>
    refine AW.reg ?_
    iterate 8 refine AOL.s1 (h := ?_)
    refine AOL.nil ?_
    refine AW.kq [4, 5] (h := ?_)
    repeat refine AW.seq ?_
    refine AW.ret ?_
    refine ⟨_, [], rfl, HOk.nil _, ?_⟩
    rw [show _ = false from e, show _ = s2 from es]
    rfl
  | true =>
    refine AW.reg ?_
    iterate 8 refine AOL.s1 (h := ?_)
    refine AOL.nil ?_
    refine AW.kq [4, 5] (h := ?_)
    repeat refine AW.seq ?_
    refine AW.ret ?_
    refine ⟨_, [], rfl, HOk.nil _, ?_⟩
    rw [show _ = true from e, show _ = s2 from es, Bool.true_and]
    rfl
end Go.Proofs.YtngphcdhdllnnaaGreat.E.M
end
section
/- obollaw18: the document's examples; whether paths are short: contracts over E. -/
set_option linter.unusedVariables false
set_option linter.unusedSimpArgs false
set_option maxRecDepth 10000
open Go Go.Proofs.YtngphcdhdllnnaaGreat.E Go.Proofs
namespace Go.Proofs.YtngphcdhdllnnaaGreat.E.M
abbrev simI : Ip := ⟨7, (0, twoH 7 2, 0), 0, [0]⟩
abbrev simM (a b c : Int) : Mv := ⟨0, a, 0, 0, simI, simI, (b, 0, 0), (c, 0, 0)⟩
theorem simM_w {a b c : Int} (ha : w64 a) (hb : w64 b) (hc : w64 c) : wM (simM a b c) := by
  have w0 : w64 0 := by decide
  have wt : w64 (twoH 7 2) := (twoH_l 7 2).w
  have wi : wI simI := ⟨by decide, ⟨w0, wt, w0⟩, show (0:Int) < 9223372036854775808 by decide, fun v hv => by simp only [List.mem_singleton] at hv; subst hv; exact w0, by decide⟩
  exact ⟨w0, ha, w0, w0, wi, wi, ⟨hb, w0, w0⟩, ⟨hc, w0, w0⟩⟩
theorem simM_f {a b c : Int} (ha : bw a = true) (hb : bw b = true) (hc : bw c = true) : fitsH (simM a b c) 1 = true := by
  have b0 : bw 0 = true := rfl
  have b7 : bw 7 = true := rfl
  have bt : bw (twoH 7 2) = true := by unfold bw; rw [decide_eq_true_eq]; exact (hash_lt 7 2).2
  have hp : decide ((0:Int) < 2 ^ (1:Int).toNat) = true := rfl
  have hl : decide (((1:Nat):Int) = 1) = true := rfl
  have hd : decide ((1:Int) ≤ 1 ∧ (1:Int) ≤ 16) = true := rfl
  have h0 : decide ((0:Int) ≤ 0) = true := rfl
  simp only [fitsH, hdF, inF, outF, List.all_cons, List.all_nil, List.length_cons, List.length_nil, Nat.zero_add, b0, b7, bt, ha, hb, hc, hp, hl, hd, h0, Bool.and_self]
theorem simM_r : rightH (simM 5 2 3) = true ∧ rightH (simM 5 2 4) = false := by
  constructor <;> simp [rightH, okI, rAdd]
set_option maxHeartbeats 4000000 in
theorem obollaw18_simple_c {a b c : Int} : Fn Tryz.prog 26 [u a, u b, u c] [] (fun r h_ => r = .agg (mvc (simM a b c))) := by
  refine Fn.enter Tryz.func26 Tryz.ntmps26 rfl (h := ?_)
  have tf := tfm
  have ot_ : (false || true) = true := rfl
  have tfv := tfv
  have tfn := tfn
  have tfr := tfr
  have n0 : Int.toNat 0 = 0 := rfl
  have n1 : Int.toNat 1 = 1 := rfl
  have q0 : (0:Int) ≤ 0 := by decide
  have q1' : (0:Int) ≤ 1 := by decide
  have x02 : (0:Int) < ((2:Nat):Int) := by decide
  have x12 : (1:Int) < ((2:Nat):Int) := by decide
  have z02 : (0:Int) < 2 := by decide
  have z12 : (1:Int) < 2 := by decide
  have a1_ : IntKind.i64.wrap (0 + 1) = 1 := by decide
  have a2_ : IntKind.i64.wrap (1 + 1) = 2 := by decide
  have i02 : decide ((0:Int) < 2) = true := rfl
  have i12 : decide ((1:Int) < 2) = true := rfl
  have i22 : decide ((2:Int) < 2) = false := rfl
  have cT := obolref10_Two_c (a := 7) (b := 2) (by decide) (by decide)
  obtain ⟨tt, htt⟩ : ∃ x, x = twoH 7 2 := ⟨_, rfl⟩
  rw [← htt] at cT
  replace htt : id (tt = twoH 7 2) := htt
  repeat refine AW.seq ?_
  refine AW.reg ?_
  iterate 1 refine AOL.s1 (h := ?_)
  refine AOL.nil ?_
  refine AW.kq [0, 1, 2, 6] (h := ?_)
  repeat refine AW.seq ?_
  refine AW.reg ?_
  iterate 4 refine AOL.s1 (h := ?_)
  refine AOL.nil ?_
  refine AW.kq [1, 2, 6, 7] (h := ?_)
  repeat refine AW.seq ?_
  refine AW.reg ?_
  iterate 1 refine AOL.s1 (h := ?_)
  refine AOL.nil ?_
  refine AW.kq [1, 2, 6, 7, 8] (h := ?_)
  repeat refine AW.seq ?_
  refine AW.block ?_
  repeat refine AW.seq ?_
  refine AW.rounds ?_
  refine AWin.next [1, 2, 6, 7, 8] (h := ?_)
  repeat refine AW.seq ?_
  refine AW.reg ?_
  iterate 2 refine AOL.s1 (h := ?_)
  refine AOL.nil ?_
  refine AW.kq [1, 2, 6, 7, 8, 12] (h := ?_)
  repeat refine AW.seq ?_
  refine AW.cond rfl (fun c_ => ?_) (fun c_ => ?_)
  rotate_left
  · cases c_
  refine AW.skip ?_
  repeat refine AW.seq ?_
  refine AW.block ?_
  repeat refine AW.seq ?_
  refine AW.reg ?_
  iterate 1 refine AOL.s1 (h := ?_)
  refine AOL.callD rfl (cT) (by kernel_rfl) rfl rfl (h := ?_)
  iterate 6 refine AOL.s1 (h := ?_)
  refine AOL.nil ?_
  refine AW.fz 1288 rfl (fun h => by cases h) (h := ?_)
  repeat refine AW.seq ?_
  refine AW.reg ?_
  iterate 3 refine AOL.s1 (h := ?_)
  refine AOL.nil ?_
  refine AWin.next [1, 2, 6, 7, 8] (h := ?_)
  repeat refine AW.seq ?_
  refine AW.reg ?_
  iterate 2 refine AOL.s1 (h := ?_)
  refine AOL.nil ?_
  refine AW.kq [1, 2, 6, 7, 8, 12] (h := ?_)
  repeat refine AW.seq ?_
  refine AW.cond rfl (fun c_ => ?_) (fun c_ => ?_)
  rotate_left
  · cases c_
  refine AW.skip ?_
  repeat refine AW.seq ?_
  refine AW.block ?_
  repeat refine AW.seq ?_
  refine AW.reg ?_
  iterate 1 refine AOL.s1 (h := ?_)
  refine AOL.callD rfl (cT) (by kernel_rfl) rfl rfl (h := ?_)
  iterate 6 refine AOL.s1 (h := ?_)
  refine AOL.nil ?_
  refine AW.fz 1288 rfl (fun h => by cases h) (h := ?_)
  repeat refine AW.seq ?_
  refine AW.reg ?_
  iterate 3 refine AOL.s1 (h := ?_)
  refine AOL.nil ?_
  refine AWin.next [1, 2, 6, 7, 8] (h := ?_)
  repeat refine AW.seq ?_
  refine AW.reg ?_
  iterate 2 refine AOL.s1 (h := ?_)
  refine AOL.nil ?_
  refine AW.kq [1, 2, 6, 7, 8, 12] (h := ?_)
  repeat refine AW.seq ?_
  refine AW.cond rfl (fun c_ => ?_) (fun c_ => ?_)
  · cases c_
  repeat refine AW.seq ?_
  refine AW.exit ?_
  repeat (first | refine Kseq.ex ?_ | refine Kloop.ex ?_ | refine Kblock.miss (by decide) ?_)
  refine Kblock.hit ?_
  refine AW.kq [1, 2, 6, 7] (h := ?_)
  repeat refine AW.seq ?_
  refine AW.reg ?_
  iterate 5 refine AOL.s1 (h := ?_)
  refine AOL.nil ?_
  refine AW.kq [2, 6, 7] (h := ?_)
  repeat refine AW.seq ?_
  refine AW.reg ?_
  iterate 5 refine AOL.s1 (h := ?_)
  refine AOL.nil ?_
  refine AW.kq [6, 7] (h := ?_)
  repeat refine AW.seq ?_
  refine AW.reg ?_
  iterate 2 refine AOL.s1 (h := ?_)
  refine AOL.nil ?_
  refine AW.kq [6] (h := ?_)
  repeat refine AW.seq ?_
  refine AW.ret ?_
  refine ⟨_, [], rfl, HOk.nil _, ?_⟩
  rw [show tt = twoH 7 2 from htt]
  rfl
set_option maxHeartbeats 8000000 in
theorem obollaw18_up_c : Fn Tryz.prog 5 [] [] (fun r h_ => r = bo true) := by
  refine Fn.enter Tryz.func5 Tryz.ntmps5 rfl (h := ?_)
  have tf := tfm
  have ot_ : (false || true) = true := rfl
  have tfv := tfv
  have tfn := tfn
  have tfr := tfr
  have w5 : w64 5 := by decide
  have w2 : w64 2 := by decide
  have w3 : w64 3 := by decide
  have w4 : w64 4 := by decide
  have hW := simM_w w5 w2 w3
  have hF : fitsH (simM 5 2 3) 1 = true := simM_f rfl rfl rfl
  have hF2 : fitsH (simM 5 2 4) 1 = true := simM_f rfl rfl rfl
  have fr := frM.of hW hF
  have mk := make_law fr
  have ml := makM_len fr
  have hH := (holds_good mk.1 (by omega) (by omega)).1.2 (mk.2.2 simM_r.1)
  have cR1 := circuit_Right_c (m := simM 5 2 3) (d := 1) hW ⟨show (-9223372036854775808:Int) ≤ 0 by decide, show (-9223372036854775808:Int) ≤ 0 by decide⟩
  have cR2 := circuit_Right_c (m := simM 5 2 4) (d := 1) (simM_w w5 w2 w4) ⟨show (-9223372036854775808:Int) ≤ 0 by decide, show (-9223372036854775808:Int) ≤ 0 by decide⟩
  rw [if_pos hF, simM_r.1] at cR1
  rw [if_pos hF2, simM_r.2] at cR2
  have cM := circuit_Make_y hW hF mk.1.rok
  obtain ⟨G, hG⟩ : ∃ x, x = makM (simM 5 2 3) 1 := ⟨_, rfl⟩
  rw [← hG] at cM mk ml hH
  have cH := rank_Holds_c (s := sysM G) (V := G.vals) (mk.1.len (by omega)) mk.1.wR mk.1.wV (by omega)
  rw [hH] at cH
  have cS1 := obollaw18_simple_c (a := 5) (b := 2) (c := 3)
  have cS2 := obollaw18_simple_c (a := 5) (b := 2) (c := 4)
  have hfl : id (AV.sl G.vals.length (sub 0 (G.vals.length * 1) (fm u1 G.vals)) = ul G.vals) := by show _ = _; rw [sub_all (by rw [fm_len u1_len]; exact Nat.le_refl _)]
  clear hH fr hG hW hF hF2 mk ml
  repeat refine AW.seq ?_
  refine AW.reg ?_
  iterate 1 refine AOL.s1 (h := ?_)
  refine AOL.nil ?_
  refine AW.kq [] (h := ?_)
  repeat refine AW.seq ?_
  refine AW.reg ?_
  refine AOL.callD rfl (cS1) (by kernel_rfl) rfl rfl (h := ?_)
  refine AOL.callD rfl (cR1) (by kernel_rfl) rfl rfl (h := ?_)
  iterate 5 refine AOL.s1 (h := ?_)
  refine AOL.nil ?_
  refine AW.kq [1, 2] (h := ?_)
  repeat refine AW.seq ?_
  refine AW.reg ?_
  refine AOL.callD rfl (cS2) (by kernel_rfl) rfl rfl (h := ?_)
  refine AOL.callD rfl (cR2) (by kernel_rfl) rfl rfl (h := ?_)
  iterate 5 refine AOL.s1 (h := ?_)
  refine AOL.nil ?_
  refine AW.kq [1, 2, 3, 4] (h := ?_)
  repeat refine AW.seq ?_
  refine AW.reg ?_
  refine AOL.callD rfl (cS1) (by kernel_rfl) rfl rfl (h := ?_)
  refine AOL.callO 5000 (cM) rfl (by kernel_rfl) rfl (by first | rfl | exact frees_fm (fun _ => rfl) _ | exact a64_free _ | exact by8_free _) (by intro l_ hl_; simp [labs, labss] at hl_ <;> exact hl_) (by decide) (by simp only [St.drop, mapT, mapH, kill, kills, del, St.put, ins, ren, rens, reduceIte, Nat.reduceLT, Nat.reduceEqDiff, Bool.false_eq_true]; exact rfl) ?_
  iterate 8 refine AOL.s1 (h := ?_)
  refine AOL.nil ?_
  refine AW.kq [1, 2, 3, 4, 5, 6, 7] (h := ?_)
  refine AW.fz 5000 rfl (fun h => by cases h) (h := ?_)
  rw [show AV.sl G.vals.length (sub 0 (G.vals.length * 1) (fm u1 G.vals)) = ul G.vals from hfl]
  repeat refine AW.seq ?_
  refine AW.reg ?_
  iterate 2 refine AOL.s1 (h := ?_)
  skip
  iterate 3 refine AOL.s1 (h := ?_)
  iterate 1 refine AOL.s1 (h := ?_)
  skip
  iterate 3 refine AOL.s1 (h := ?_)
  iterate 1 refine AOL.s1 (h := ?_)
  skip
  iterate 3 refine AOL.s1 (h := ?_)
  iterate 1 refine AOL.s1 (h := ?_)
  skip
  iterate 3 refine AOL.s1 (h := ?_)
  iterate 1 refine AOL.s1 (h := ?_)
  skip
  iterate 2 refine AOL.s1 (h := ?_)
  refine AOL.callD rfl (cH) (by kernel_rfl) rfl rfl (h := ?_)
  iterate 2 refine AOL.s1 (h := ?_)
  iterate 1 refine AOL.s1 (h := ?_)
  refine AOL.nil ?_
  refine AW.kq [0] (h := ?_)
  repeat refine AW.seq ?_
  refine AW.ret ?_
  refine ⟨_, [], rfl, HOk.nil _, ?_⟩
  rfl
end Go.Proofs.YtngphcdhdllnnaaGreat.E.M
end
section
/- obollaw18: the public numbers of a move, whether it is right, its system: the laws over E. -/
set_option linter.unusedVariables false
set_option linter.unusedSimpArgs false
set_option maxRecDepth 10000
open Go Go.Proofs.YtngphcdhdllnnaaGreat.E Go.Proofs
namespace Go.Proofs.YtngphcdhdllnnaaGreat.E.M
set_option maxHeartbeats 8000000 in
theorem obolref18_Numbers_c {m : Mv} (hm : wM m) (ha : 0 ≤ m.x.a ∧ 0 ≤ m.y.a) : Fn Tryz.prog 10 [.agg (mvc m)] [] (fun r h_ => r = ul (numsH m)) := by
  refine Fn.enter Tryz.func10 Tryz.ntmps10 rfl (h := ?_)
  have tf := tfm
  have ot_ : (false || true) = true := rfl
  have tfv := tfv
  have tfm := tfm
  have tfn := tfn
  have tfr := tfr
  have n0 : Int.toNat 0 = 0 := rfl
  have n1 : Int.toNat 1 = 1 := rfl
  have q0 : (0:Int) ≤ 0 := by decide
  have q1' : (0:Int) ≤ 1 := by decide
  have x02 : (0:Int) < ((2:Nat):Int) := by decide
  have x12 : (1:Int) < ((2:Nat):Int) := by decide
  have z02 : (0:Int) < 2 := by decide
  have z12 : (1:Int) < 2 := by decide
  have a1_ : IntKind.i64.wrap (0 + 1) = 1 := by decide
  have a2_ : IntKind.i64.wrap (1 + 1) = 2 := by decide
  have i02 : decide ((0:Int) < 2) = true := rfl
  have i12 : decide ((1:Int) < 2) = true := rfl
  have i22 : decide ((2:Int) < 2) = false := rfl
  obtain ⟨mr, mi, mo, ms, ⟨xk, ⟨xv, xo, xr⟩, xa, xp⟩, ⟨yk, ⟨yv, yo, yr⟩, ya, yp⟩, ⟨pv, po, pr⟩, ⟨qv, qo, qr⟩⟩ := m
  obtain ⟨w1, w2, w3, w4, ⟨x1, ⟨x2, x3, x4⟩, x5, x6, x7⟩, ⟨y1, ⟨y2, y3, y4⟩, y5, y6, y7⟩, ⟨p1, p2, p3⟩, ⟨q1, q2, q3⟩⟩ := hm
  simp only at w1 w2 w3 w4 x1 x2 x3 x4 x5 x6 x7 y1 y2 y3 y4 y5 y6 y7 p1 p2 p3 q1 q2 q3 ha
  have cX := obolref18_End_c (x := ⟨xk, (xv, xo, xr), xa, xp⟩) x1 x4 ⟨ha.1, x5⟩
  have cY := obolref18_End_c (x := ⟨yk, (yv, yo, yr), ya, yp⟩) y1 y4 ⟨ha.2, y5⟩
  have cP := obolref17_Mark_c (n := (pv, po, pr)) ⟨p1, p2, p3⟩
  have cQ := obolref17_Mark_c (n := (qv, qo, qr)) ⟨q1, q2, q3⟩
  have cTx := obolref10_Two_c (a := xk) (b := 1) x1 (by decide)
  have cTy := obolref10_Two_c (a := yk) (b := 1) y1 (by decide)
  have cSx := obolref10_Two_c (a := twoH xk 1) (b := ms) (twoH_l _ _).w w4
  have cSy := obolref10_Two_c (a := twoH yk 1) (b := ms) (twoH_l _ _).w w4
  have hN : numsH ⟨mr, mi, mo, ms, ⟨xk, (xv, xo, xr), xa, xp⟩, ⟨yk, (yv, yo, yr), ya, yp⟩, (pv, po, pr), (qv, qo, qr)⟩ = [mr, mi, mo, ms, endH ⟨xk, (xv, xo, xr), xa, xp⟩, endH ⟨yk, (yv, yo, yr), ya, yp⟩, mrkH (pv, po, pr), mrkH (qv, qo, qr), twoH (twoH xk 1) ms, twoH (twoH yk 1) ms] := rfl
  rw [hN]
  clear hN
  generalize endH ⟨xk, (xv, xo, xr), xa, xp⟩ = e1 at *
  generalize endH ⟨yk, (yv, yo, yr), ya, yp⟩ = e2 at *
  generalize mrkH (pv, po, pr) = m1 at *
  generalize mrkH (qv, qo, qr) = m2 at *
  generalize twoH (twoH xk 1) ms = s1 at *
  generalize twoH (twoH yk 1) ms = s2 at *
  generalize twoH xk 1 = t1 at *
  generalize twoH yk 1 = t2 at *
  repeat refine AW.seq ?_
  refine AW.reg ?_
  iterate 2 refine AOL.s1 (h := ?_)
  refine AOL.nil ?_
  refine AW.kq [1] (h := ?_)
  repeat refine AW.seq ?_
  refine AW.drw 24 [] (by kernel_rfl) (h := ?_)
  iterate 11 refine ADL.dm 1 (h := ?_)
  refine ADL.call rfl (cX) (by kernel_rfl) rfl rfl (h := ?_)
  iterate 3 refine ADL.dm 1 (h := ?_)
  refine ADL.call rfl (cY) (by kernel_rfl) rfl rfl (h := ?_)
  iterate 3 refine ADL.dm 1 (h := ?_)
  refine ADL.call rfl (cP) (by kernel_rfl) rfl rfl (h := ?_)
  iterate 3 refine ADL.dm 1 (h := ?_)
  refine ADL.call rfl (cQ) (by kernel_rfl) rfl rfl (h := ?_)
  refine ADL.done hmix rfl rfl (hT := ?_)
  iterate 2 refine AOL.s1 (h := ?_)
  refine AOL.nil ?_
  refine AW.kq [1, 3] (h := ?_)
  repeat refine AW.seq ?_
  refine AW.reg ?_
  iterate 1 refine AOL.s1 (h := ?_)
  refine AOL.nil ?_
  refine AW.kq [1, 3, 4] (h := ?_)
  repeat refine AW.seq ?_
  refine AW.block ?_
  repeat refine AW.seq ?_
  refine AW.rounds ?_
  refine AWin.next [1, 3, 4] (h := ?_)
  repeat refine AW.seq ?_
  refine AW.reg ?_
  iterate 2 refine AOL.s1 (h := ?_)
  refine AOL.nil ?_
  refine AW.kq [1, 3, 4, 31] (h := ?_)
  repeat refine AW.seq ?_
  refine AW.cond rfl (fun c_ => ?_) (fun c_ => ?_)
  rotate_left
  · cases c_
  refine AW.skip ?_
  repeat refine AW.seq ?_
  refine AW.block ?_
  repeat refine AW.seq ?_
  refine AW.drw 11 [1704] (by kernel_rfl) (h := ?_)
  iterate 6 refine ADL.dm 1 (h := ?_)
  refine ADL.call rfl (cTx) (by kernel_rfl) rfl rfl (h := ?_)
  iterate 2 refine ADL.dm 1 (h := ?_)
  refine ADL.call rfl (cSx) (by kernel_rfl) rfl rfl (h := ?_)
  iterate 1 refine ADL.dm 1 (h := ?_)
  refine ADL.done hmix rfl rfl (hT := ?_)
  iterate 2 refine AOL.s1 (h := ?_)
  refine AOL.nil ?_
  repeat refine AW.seq ?_
  refine AW.let 1704 (h := ?_)
  refine AW.reg ?_
  iterate 3 refine AOL.s1 (h := ?_)
  refine AOL.nil ?_
  refine AWin.next [1, 3, 4] (h := ?_)
  repeat refine AW.seq ?_
  refine AW.reg ?_
  iterate 2 refine AOL.s1 (h := ?_)
  refine AOL.nil ?_
  refine AW.kq [1, 3, 4, 31] (h := ?_)
  repeat refine AW.seq ?_
  refine AW.cond rfl (fun c_ => ?_) (fun c_ => ?_)
  rotate_left
  · cases c_
  refine AW.skip ?_
  repeat refine AW.seq ?_
  refine AW.block ?_
  repeat refine AW.seq ?_
  refine AW.drw 11 [1704] (by kernel_rfl) (h := ?_)
  iterate 6 refine ADL.dm 1 (h := ?_)
  refine ADL.call rfl (cTy) (by kernel_rfl) rfl rfl (h := ?_)
  iterate 2 refine ADL.dm 1 (h := ?_)
  refine ADL.call rfl (cSy) (by kernel_rfl) rfl rfl (h := ?_)
  iterate 1 refine ADL.dm 1 (h := ?_)
  refine ADL.done hmix rfl rfl (hT := ?_)
  iterate 2 refine AOL.s1 (h := ?_)
  refine AOL.nil ?_
  repeat refine AW.seq ?_
  refine AW.let 1704 (h := ?_)
  refine AW.reg ?_
  iterate 3 refine AOL.s1 (h := ?_)
  refine AOL.nil ?_
  refine AWin.next [1, 3, 4] (h := ?_)
  repeat refine AW.seq ?_
  refine AW.reg ?_
  iterate 2 refine AOL.s1 (h := ?_)
  refine AOL.nil ?_
  refine AW.kq [1, 3, 4, 31] (h := ?_)
  repeat refine AW.seq ?_
  refine AW.cond rfl (fun c_ => ?_) (fun c_ => ?_)
  · cases c_
  repeat refine AW.seq ?_
  refine AW.exit ?_
  repeat (first | refine Kseq.ex ?_ | refine Kloop.ex ?_ | refine Kblock.miss (by decide) ?_)
  refine Kblock.hit ?_
  refine AW.kq [3] (h := ?_)
  repeat refine AW.seq ?_
  refine AW.reg ?_
  iterate 2 refine AOL.s1 (h := ?_)
  refine AOL.nil ?_
  refine AW.kq [2] (h := ?_)
  refine AW.fz 1464 rfl (fun h => by cases h) (h := ?_)
  repeat refine AW.seq ?_
  refine AW.ret ?_
  refine ⟨_, [], rfl, HOk.nil _, ?_⟩
  rfl
theorem mod17 (d : Int) : ∃ n : Nat, n ≤ 16 ∧ (if 0 > d then 0 else d).tmod 17 = (n : Int) ∧ (1 ≤ d ∧ d ≤ 16 → d = n) := by
  have h0 : 0 ≤ (if 0 > d then 0 else d) := by split <;> omega
  have e : (if 0 > d then 0 else d).tmod 17 = (if 0 > d then 0 else d) % 17 := Int.tmod_eq_emod_of_nonneg h0
  rw [e]
  have h1 := Int.emod_nonneg (if 0 > d then 0 else d) (show (17:Int) ≠ 0 by decide)
  have h2 := Int.emod_lt_of_pos (if 0 > d then 0 else d) (show (0:Int) < 17 by decide)
  refine ⟨((if 0 > d then 0 else d) % 17).toNat, by omega, by omega, fun hd => ?_⟩
  rw [if_neg (by omega)]
  omega
end Go.Proofs.YtngphcdhdllnnaaGreat.E.M
end
section
/- obollaw12: the document's examples; systems that are the same: contracts over E. -/
set_option linter.unusedVariables false
set_option linter.unusedSimpArgs false
set_option maxRecDepth 10000
open Go Go.Proofs.YtngphcdhdllnnaaGreat.E Go.Proofs
namespace Go.Proofs.YtngphcdhdllnnaaGreat.E.M
end Go.Proofs.YtngphcdhdllnnaaGreat.E.M
end
