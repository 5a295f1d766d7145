/- Texts joined: ZVClw, ZVClx. -/
import Derived.Test.YtngphcdhdllnnaaGreatZW10
import Derived.Test.YtngphcdhdllnnaaGreatProg
import Derived.KernelRfl
section
/- What the system of a move says of its own values: the plain law. -/
set_option linter.unusedVariables false
set_option linter.unusedSimpArgs false
set_option maxRecDepth 10000
open Go Go.Proofs.YtngphcdhdllnnaaGreat.E Go.Proofs
namespace Go.Proofs.YtngphcdhdllnnaaGreat.E.M
structure Lw (m m' : Mk) (P : Prop) : Prop where
  good : Good m'
  le : m.vals.length ≤ m'.vals.length
  g : ∀ v : Int, v < m.vals.length → gV m'.vals v = gV m.vals v
  all : AllH m' ↔ (AllH m ∧ P)
theorem Lw.of {m m' : Mk} {X : List Int} (h : Law m m' X) : Lw m m' True := ⟨h.good, by rw [h.len]; omega, fun v hv => h.g hv, by rw [h.all]; simp⟩
theorem Lw.refl {m : Mk} (h : Good m) : Lw m m True := ⟨h, Nat.le_refl _, fun _ _ => rfl, by simp⟩
theorem Lw.trans {m m1 m2 : Mk} {P Q : Prop} (h : Lw m m1 P) (k : Lw m1 m2 Q) : Lw m m2 (P ∧ Q) :=
  ⟨k.good, Nat.le_trans h.le k.le, fun v hv => by rw [k.g v (by have := h.le; omega), h.g v hv], by rw [k.all, h.all, and_assoc]⟩
theorem Lw.iff {m m' : Mk} {P Q : Prop} (h : Lw m m' P) (e : P ↔ Q) : Lw m m' Q := ⟨h.good, h.le, h.g, h.all.trans (by rw [e])⟩
theorem Lw.t {m m1 m2 : Mk} {P : Prop} (h : Lw m m1 P) (k : Lw m1 m2 True) : Lw m m2 P := (h.trans k).iff (by simp)
/-- a variable of a value -/
structure Vl (m : Mk) (v x : Int) : Prop where
  a : 0 ≤ v
  b : v < m.vals.length
  c : gV m.vals v = x
theorem Vl.mv {m m' : Mk} {v x : Int} {P : Prop} (h : Vl m v x) (l : Lw m m' P) : Vl m' v x := ⟨h.a, by have := h.b; have := l.le; omega, by rw [l.g v h.b, h.c]⟩
theorem Vl.m {m : Mk} {v x : Int} (h : Vl m v x) (g : Good m) : valM m.vals v = x := by rw [valM_at2 g h.a h.b, h.c]
theorem Vl.lt {m : Mk} {v x : Int} (h : Vl m v x) (g : Good m) : 0 ≤ x ∧ x < 288230376287764481 := by rw [← h.c]; exact g.glt v
structure Vs (m : Mk) (V X : List Int) : Prop where
  a : ∀ v ∈ V, 0 ≤ v ∧ v < m.vals.length
  c : V.map (gV m.vals) = X
theorem Vs.mv {m m' : Mk} {V X : List Int} {P : Prop} (h : Vs m V X) (l : Lw m m' P) : Vs m' V X :=
  ⟨fun v hv => by have := h.a v hv; have := l.le; omega, by rw [← h.c]; exact List.map_congr_left fun v hv => l.g v (h.a v hv).2⟩
theorem Vs.nil {m : Mk} : Vs m [] [] := ⟨fun v hv => (by cases hv), rfl⟩
theorem Vs.cons {m : Mk} {v x : Int} {V X : List Int} (h : Vl m v x) (k : Vs m V X) : Vs m (v :: V) (x :: X) :=
  ⟨fun w hw => (List.mem_cons.1 hw).elim (fun e => e ▸ ⟨h.a, h.b⟩) (fun hw => k.a w hw), by rw [List.map_cons, h.c, k.c]⟩
theorem Vs.hd {m : Mk} {v x : Int} {V X : List Int} (h : Vs m (v :: V) (x :: X)) : Vl m v x ∧ Vs m V X := by
  have hc := h.c
  simp only [List.map_cons, List.cons.injEq] at hc
  exact ⟨⟨(h.a v (by simp)).1, (h.a v (by simp)).2, hc.1⟩, ⟨fun w hw => h.a w (List.mem_cons_of_mem _ hw), hc.2⟩⟩
theorem last_vl {m m' : Mk} {x : Int} (h : m'.vals = m.vals ++ [x]) : Vl m' m.vals.length x := ⟨by omega, by rw [h]; simp; omega, by rw [h, gV_last]⟩
theorem fresh_lw {m : Mk} (h : Good m) {x : Int} (hx : 0 ≤ x ∧ x < 288230376287764481) : Lw m (freshM m x) True ∧ Vl (freshM m x) m.vals.length x := by
  have e : x % 288230376287764481 = x := by omega
  have l1 : Law m (freshM m x) [x % 288230376287764481] := ⟨h.fresh x, rfl, AllH.fresh h x⟩
  rw [e] at l1
  exact ⟨Lw.of l1, last_vl l1.vals⟩
theorem pthS_eq : ∀ (V : List Int) (m : Mk) (l : List Int), pthS V m l = (frS V m, l ++ ixS V m.vals.length)
  | [], m, l => by simp [pthS, frS, ixS]
  | x :: r, m, l => by
    unfold pthS
    rw [pthS_eq r]
    simp [frS, ixS, freshM]
theorem pth_lw {m : Mk} (h : Good m) {V : List Int} (hV : ∀ x ∈ V, 0 ≤ x ∧ x < 288230376287764481) : Lw m (pthS V m []).1 True ∧ Vs (pthS V m []).1 (pthS V m []).2 V := by
  rw [pthS_eq]
  have l := frS_law V h
  have e : V.map (fun v => v % 288230376287764481) = V := by
    conv => rhs; rw [← List.map_id V]
    refine List.map_congr_left fun v hv => ?_
    have := hV v hv
    simp only [id]; omega
  refine ⟨Lw.of l, ?_, ?_⟩
  · intro v hv
    have := ixS_in V m.vals.length v (by simpa using hv)
    have hl := l.len
    rw [List.length_map] at hl
    show 0 ≤ v ∧ v < ((frS V m).vals.length : Int)
    omega
  · show ([] ++ ixS V m.vals.length).map (gV (frS V m).vals) = V
    rw [List.nil_append, l.vals, ixS_val, e]
theorem lin1_lw {m : Mk} (h : Good m) (c : Int) : Lw m (linM m [⟨0, c⟩]) True ∧ Vl (linM m [⟨0, c⟩]) m.vals.length (c % 288230376287764481) := by
  have l := lin_law h (L := [⟨0, c⟩]) (by simp)
  have h0 := h.ne
  rw [ownT_id (V := m.vals) (by intro t ht; simp only [List.mem_singleton] at ht; subst ht; exact ⟨Int.le_refl _, by show (0:Int) < _; omega⟩)] at l
  simp only [lin, h.g0, Int.mul_one, Int.add_zero] at l
  exact ⟨Lw.of l, last_vl l.vals⟩
theorem lin0_lw {m : Mk} (h : Good m) : Lw m (linM m []) True ∧ Vl (linM m []) m.vals.length 0 := by
  have l := lin_law h (L := []) (by simp)
  simp only [ownT, List.map_nil, lin, Int.zero_emod] at l
  exact ⟨Lw.of l, last_vl l.vals⟩
theorem two_lw {m : Mk} (h : Good m) {a b x y : Int} (fa : Vl m a x) (fb : Vl m b y) : Lw m (twoM m a b) True ∧ Vl (twoM m a b) (twoR m a b) (twoH x y) := by
  obtain ⟨X, l, h0, h1, h2⟩ := two_law h a b
  rw [fa.m h, fb.m h] at h2
  exact ⟨Lw.of l, h0, h1, h2⟩
theorem same_lw {m : Mk} (h : Good m) {a b x y : Int} (fa : Vl m a x) (fb : Vl m b y) : Lw m (sameM m a b) (x = y) := by
  obtain ⟨g, l⟩ := same_law h a b
  rw [fa.m h, fb.m h] at l
  exact ⟨g, Nat.le_refl _, fun _ _ => rfl, l⟩
theorem many_lw {m : Mk} (h : Good m) {V X : List Int} (fs : Vs m V X) : Lw m (manE m V).1 True ∧ Vl (manE m V).1 (manE m V).2 (manyH X) := by
  have l1 := lin1_lw h V.length
  have n1 := l1.2.b
  obtain ⟨Y, l5, z0, z1⟩ := man_law V _ m.vals.length l1.1.good (by omega) n1
  have fs1 := fs.mv l1.1
  have hz := man_val V _ m.vals.length l1.1.good (by omega) n1 fs1.a
  refine ⟨l1.1.t (Lw.of l5), z0, z1, ?_⟩
  show gV (manS V (linM m [⟨0, V.length⟩]) m.vals.length).1.vals (manS V (linM m [⟨0, V.length⟩]) m.vals.length).2 = _
  rw [hz, fs1.c, l1.2.c]
  unfold manyH
  rw [← fs.c, List.length_map]
theorem mul_lw {m : Mk} (h : Good m) {a b x y : Int} (fa : Vl m a x) (fb : Vl m b y) : Lw m (mulM m a b) True ∧ Vl (mulM m a b) m.vals.length (x * y % 288230376287764481) := by
  have i1 := isM_in h.ne a
  have i2 := isM_in h.ne b
  have l := prod_law h (a := one1 (isMk m a)) (b := one1 (isMk m b)) (blw_1 i1.2) (blw_1 i2.2) (by simp) (by simp)
  rw [lin_1, lin_1, ← valM_g h.ne, ← valM_g h.ne, fa.m h, fb.m h] at l
  exact ⟨Lw.of l, last_vl l.vals⟩
theorem sum2_lw {m : Mk} (h : Good m) (k : Int) {a b x y : Int} (fa : Vl m a x) (fb : Vl m b y) : Lw m (linM m (sumS 0 k [a, b])) True ∧ Vl (linM m (sumS 0 k [a, b])) m.vals.length ((x + k * y) % 288230376287764481) := by
  have l := lin_law h (L := sumS 0 k [a, b]) (by simp [sumS])
  rw [ownT_id (V := m.vals) (by
    intro t ht
    simp only [sumS, List.mem_cons, List.not_mem_nil, or_false] at ht
    rcases ht with rfl | rfl
    · exact ⟨fa.a, fa.b⟩
    · exact ⟨fb.a, fb.b⟩)] at l
  have e : lin m.vals (sumS 0 k [a, b]) = x + k * y := by simp [sumS, lin, fa.c, fb.c]
  rw [e] at l
  exact ⟨Lw.of l, last_vl l.vals⟩
theorem sum3_lw {m : Mk} (h : Good m) {a b c x y z : Int} (fa : Vl m a x) (fb : Vl m b y) (fc : Vl m c z) : Lw m (linM m (sumS 0 1 [a, b, c])) True ∧ Vl (linM m (sumS 0 1 [a, b, c])) m.vals.length ((x + (y + z)) % 288230376287764481) := by
  have l := lin_law h (L := sumS 0 1 [a, b, c]) (by simp [sumS])
  rw [ownT_id (V := m.vals) (by
    intro t ht
    simp only [sumS, List.mem_cons, List.not_mem_nil, or_false] at ht
    rcases ht with rfl | rfl | rfl
    · exact ⟨fa.a, fa.b⟩
    · exact ⟨fb.a, fb.b⟩
    · exact ⟨fc.a, fc.b⟩)] at l
  have e : lin m.vals (sumS 0 1 [a, b, c]) = x + (y + z) := by simp [sumS, lin, fa.c, fb.c, fc.c]
  rw [e] at l
  exact ⟨Lw.of l, last_vl l.vals⟩
/-- so many bits of a number, the lowest first -/
def bitl : Int → Nat → List Int
  | _, 0 => []
  | x, n + 1 => x % 2 :: bitl (x / 2) n
theorem bitS_ix (a : Int) : ∀ (n j : Nat) (m : Mk) (o : List Int) (s : List Tm), Good m → 0 ≤ a → a < m.vals.length →
    ∃ (X I : List Int), Law m (bitS a n j m o s).1 X ∧ (bitS a n j m o s).2.1 = o ++ I ∧ Vs (bitS a n j m o s).1 I (bitl (gV m.vals a / 2 ^ j) n)
  | 0, j, m, o, s, h, _, _ => ⟨[], [], Law.refl h, by simp [bitS], Vs.nil⟩
  | n + 1, j, m, o, s, h, a0, a1 => by
    have hx : bitV m.vals a j = 0 ∨ bitV m.vals a j = 1 := by unfold bitV; exact Int.emod_two_eq _
    have l1 := bit_law1 h hx
    have hv : bitV m.vals a j = gV m.vals a / 2 ^ j % 2 := by unfold bitV; rw [valM_g h.ne, isM_of a0 a1]
    have f1 := last_vl l1.vals
    have hg := l1.g a1
    obtain ⟨X, I, l2, e2, f2⟩ := bitS_ix a n (j + 1) _ (o ++ [(m.vals.length : Int)]) (s ++ [⟨m.vals.length, 2 ^ j⟩]) l1.good a0 (by have := (Lw.of l1).le; omega)
    rw [hg] at f2
    refine ⟨_, (m.vals.length : Int) :: I, l1.trans l2, ?_, ?_⟩
    · show (bitS a n (j + 1) _ _ _).2.1 = _
      rw [e2]; simp
    · show Vs (bitS a n (j + 1) _ _ _).1 _ _
      unfold bitl
      have e : gV m.vals a / 2 ^ (j + 1) = gV m.vals a / 2 ^ j / 2 := by
        rw [Int.pow_succ, Int.ediv_ediv_of_nonneg (Int.le_of_lt (Int.pow_pos (by decide)))]
      rw [e] at f2
      exact Vs.cons ⟨(f1.mv (Lw.of l2)).a, (f1.mv (Lw.of l2)).b, (f1.mv (Lw.of l2)).c.trans hv⟩ f2
theorem bit_lw {m : Mk} (h : Good m) {a x : Int} (fa : Vl m a x) {n : Nat} (hn : n ≤ 58) : Lw m (bitM m a n) (x / 2 ^ n = 0) ∧ Vs (bitM m a n) (bitE m a n).2.1 (bitl x n) := by
  have eN : bitN (n : Int) = n := by
    have h : bitN (n : Int) = (n : Int).toNat := if_neg (by omega)
    rw [h]; omega
  have eI : isM m.vals a = a := isM_of fa.a fa.b
  have hb := bit_law h a n
  rw [eN, fa.m h] at hb
  obtain ⟨X, I, l, e, f⟩ : ∃ (X I : List Int), Law m (bitE m a n).1 X ∧ (bitE m a n).2.1 = [] ++ I ∧ Vs (bitE m a n).1 I (bitl (gV m.vals (isM m.vals a) / 2 ^ 0) (bitN n)) := bitS_ix (isM m.vals a) (bitN n) 0 m [] [] h (by rw [eI]; exact fa.a) (by rw [eI]; exact fa.b)
  rw [eI, eN, fa.c, Int.pow_zero, Int.ediv_one] at f
  rw [List.nil_append] at e
  have l' := Lw.of l
  refine ⟨⟨hb.1, l'.le, l'.g, hb.2⟩, ?_⟩
  rw [e]
  exact ⟨f.a, f.c⟩
theorem cho_vals {m : Mk} (h : Good m) (c a b : Int) : (choM m c a b).vals = m.vals ++ [(valM m.vals b + valM m.vals c * (valM m.vals a + 288230376287764480 * valM m.vals b)) % 288230376287764481] := by
  have h0 := h.ne
  have hx : (valM m.vals b + valM m.vals c * valF m.vals 0 (sumT (two1 (isMk m a) (isMk m b) 288230376287764480)) % 288230376287764481) % 288230376287764481 % 288230376287764481 = (valM m.vals b + valM m.vals c * (valM m.vals a + 288230376287764480 * valM m.vals b)) % 288230376287764481 := by
    rw [val_sum, val_lin, lin_2, ← valM_g h0, ← valM_g h0, Int.emod_emod]
    rw [Int.mul_emod (valM m.vals c) ((valM m.vals a + 288230376287764480 * valM m.vals b) % 288230376287764481), Int.emod_emod, ← Int.mul_emod]
    generalize valM m.vals c * (valM m.vals a + 288230376287764480 * valM m.vals b) = z
    omega
  show (freshM m _).vals = _
  rw [fresh_vals, hx]
theorem cho_lw {m : Mk} (h : Good m) {c a b z x y : Int} (fc : Vl m c z) (fa : Vl m a x) (fb : Vl m b y) (hz : z = 0 ∨ z = 1) : Lw m (choM m c a b) True ∧ Vl (choM m c a b) m.vals.length (if z = 1 then x else y) := by
  obtain ⟨w, l⟩ := cho_law h c a b
  have hv := cho_vals h c a b
  have lx := fa.lt h
  have ly := fb.lt h
  rw [fc.m h, fa.m h, fb.m h] at hv
  have e : (y + z * (x + 288230376287764480 * y)) % 288230376287764481 = if z = 1 then x else y := by
    rcases hz with rfl | rfl
    · rw [if_neg (by decide)]; omega
    · rw [if_pos rfl]; omega
  rw [e] at hv
  exact ⟨Lw.of l, last_vl hv⟩
theorem clm_lw : ∀ (P X : List Int) (B : List Int) (m : Mk) (h n y : Int), Good m → Vs m P X → Vs m B (bitl n X.length) → Vl m h y →
    Lw m (clmS B P m h).1 True ∧ Vl (clmS B P m h).1 (clmS B P m h).2 (climbH X n y)
  | [], X, B, m, h, n, y, g, fP, fB, fh => by
    have e := fP.c
    simp only [List.map_nil] at e
    subst e
    cases B <;> exact ⟨Lw.refl g, fh⟩
  | p :: P, X, B, m, h, n, y, g, fP, fB, fh => by
    obtain ⟨x, X, rfl⟩ : ∃ x X', X = x :: X' := ⟨_, _, fP.c.symm⟩
    obtain ⟨fp, fQ⟩ := Vs.hd fP
    cases B with
    | nil => exact absurd fB.c (by simp [bitl])
    | cons b B =>
      simp only [List.length_cons, bitl] at fB
      obtain ⟨fb, fC⟩ := Vs.hd fB
      clear fB
      have hz : n % 2 = 0 ∨ n % 2 = 1 := Int.emod_two_eq _
      obtain ⟨l1, f1⟩ := cho_lw g fb fp fh hz
      obtain ⟨l2, f2⟩ := cho_lw l1.good (fb.mv l1) (fh.mv l1) (fp.mv l1) hz
      obtain ⟨l3, f3⟩ := two_lw l2.good (f1.mv l2) f2
      have L := (l1.t l2).t l3
      have e : twoH (if n % 2 = 1 then x else y) (if n % 2 = 1 then y else x) = if n % 2 = 1 then twoH x y else twoH y x := by split <;> rfl
      rw [e] at f3
      obtain ⟨l4, f4⟩ := clm_lw P X B _ _ (n / 2) _ L.good (fQ.mv L) (fC.mv L) f3
      exact ⟨L.t l4, f4⟩
theorem mul_zero {v x : Int} (v0 : 0 ≤ v) (v1 : v < 288230376287764481) : v * x % 288230376287764481 = 0 ↔ v = 0 ∨ x % 288230376287764481 = 0 := by
  constructor
  · intro h
    rcases Int.lt_or_eq_of_le v0 with hb | hb
    · right
      have hg := (gcd_prime (m := 288230376287764481) (.inr (.inl rfl)) v0 v1).2 (by omega)
      have hd : (288230376287764481:Int) ∣ v * x := Int.dvd_of_emod_eq_zero h
      have hn := Int.natAbs_dvd_natAbs.2 hd
      rw [Int.natAbs_mul] at hn
      exact Int.emod_eq_zero_of_dvd (Int.natAbs_dvd_natAbs.1 (Nat.Coprime.dvd_of_dvd_mul_left (k := (288230376287764481:Int).natAbs) (m := v.natAbs) hg hn))
    · exact .inl hb.symm
  · rintro (rfl | h)
    · simp
    · rw [Int.mul_emod, h, Int.mul_zero, Int.zero_emod]
theorem manyH_lt (V : List Int) : 0 ≤ manyH V ∧ manyH V < 288230376287764481 := by have := manyH_l V; exact this
set_option maxHeartbeats 16000000 in
theorem inp_lw {m : Mk} (g : Good m) {k v o rh a ro si en an d zr zs ze za : Int} {p : List Int} (hk : 0 ≤ k ∧ k < 288230376287764481) (hv : 0 ≤ v ∧ v < 288230376287764481) (ho : 0 ≤ o ∧ o < 288230376287764481) (hrh : 0 ≤ rh ∧ rh < 288230376287764481)
    (hp : ∀ x ∈ p, 0 ≤ x ∧ x < 288230376287764481) (lp : p.length ≤ 16) (ha : 0 ≤ a ∧ a < 2 ^ p.length) (hd : d = p.length) (fr : Vl m ro zr) (fs : Vl m si zs) (fe : Vl m en ze) (fa : Vl m an za) :
    Lw m (inpM m k v o rh a p d ro si en an) ((((o = twoH k 2) ∧ (v = 0 ∨ climbH p a (mrkH (v, o, rh)) = zr)) ∧ endH ⟨k, (v, o, rh), a, p⟩ = ze) ∧ twoH (twoH k 1) zs = za) ∧ Vl (inpM m k v o rh a p d ro si en an) (freshM m k).vals.length v := by
  subst hd
  have hP : (2:Int) ^ p.length ≤ 2 ^ 16 := by exact_mod_cast Nat.pow_le_pow_right (n := 2) (by decide) lp
  have hA : 0 ≤ a ∧ a < 288230376287764481 := by omega
  have hz := fr.lt g
  have L := Lw.refl g
  obtain ⟨q1, h_q1⟩ : ∃ x, x = freshM m k := ⟨_, rfl⟩
  obtain ⟨v0, h_v0⟩ : ∃ x : Int, x = (m.vals.length : Int) := ⟨_, rfl⟩
  obtain ⟨l_, f0⟩ := fresh_lw g hk
  rw [← h_q1] at l_
  rw [← h_q1, ← h_v0] at f0
  replace fr := fr.mv l_
  replace fs := fs.mv l_
  replace fe := fe.mv l_
  replace fa := fa.mv l_
  replace L := L.t l_
  have g := l_.good
  clear l_
  obtain ⟨q2, h_q2⟩ : ∃ x, x = freshM q1 v := ⟨_, rfl⟩
  obtain ⟨v1, h_v1⟩ : ∃ x : Int, x = (q1.vals.length : Int) := ⟨_, rfl⟩
  obtain ⟨l_, f1⟩ := fresh_lw g hv
  rw [← h_q2] at l_
  rw [← h_q2, ← h_v1] at f1
  replace fr := fr.mv l_
  replace fs := fs.mv l_
  replace fe := fe.mv l_
  replace fa := fa.mv l_
  replace f0 := f0.mv l_
  replace L := L.t l_
  have g := l_.good
  clear l_
  obtain ⟨q3, h_q3⟩ : ∃ x, x = freshM q2 o := ⟨_, rfl⟩
  obtain ⟨v2, h_v2⟩ : ∃ x : Int, x = (q2.vals.length : Int) := ⟨_, rfl⟩
  obtain ⟨l_, f2⟩ := fresh_lw g ho
  rw [← h_q3] at l_
  rw [← h_q3, ← h_v2] at f2
  replace fr := fr.mv l_
  replace fs := fs.mv l_
  replace fe := fe.mv l_
  replace fa := fa.mv l_
  replace f0 := f0.mv l_
  replace f1 := f1.mv l_
  replace L := L.t l_
  have g := l_.good
  clear l_
  obtain ⟨q4, h_q4⟩ : ∃ x, x = freshM q3 rh := ⟨_, rfl⟩
  obtain ⟨v3, h_v3⟩ : ∃ x : Int, x = (q3.vals.length : Int) := ⟨_, rfl⟩
  obtain ⟨l_, f3⟩ := fresh_lw g hrh
  rw [← h_q4] at l_
  rw [← h_q4, ← h_v3] at f3
  replace fr := fr.mv l_
  replace fs := fs.mv l_
  replace fe := fe.mv l_
  replace fa := fa.mv l_
  replace f0 := f0.mv l_
  replace f1 := f1.mv l_
  replace f2 := f2.mv l_
  replace L := L.t l_
  have g := l_.good
  clear l_
  obtain ⟨q5, h_q5⟩ : ∃ x, x = freshM q4 a := ⟨_, rfl⟩
  obtain ⟨v4, h_v4⟩ : ∃ x : Int, x = (q4.vals.length : Int) := ⟨_, rfl⟩
  obtain ⟨l_, f4⟩ := fresh_lw g hA
  rw [← h_q5] at l_
  rw [← h_q5, ← h_v4] at f4
  replace fr := fr.mv l_
  replace fs := fs.mv l_
  replace fe := fe.mv l_
  replace fa := fa.mv l_
  replace f0 := f0.mv l_
  replace f1 := f1.mv l_
  replace f2 := f2.mv l_
  replace f3 := f3.mv l_
  replace L := L.t l_
  have g := l_.good
  clear l_
  obtain ⟨q6, h_q6⟩ : ∃ x, x = (pthS p q5 []).1 := ⟨_, rfl⟩
  obtain ⟨P, h_P⟩ : ∃ x, x = (pthS p q5 []).2 := ⟨_, rfl⟩
  obtain ⟨l_, fP⟩ := pth_lw g hp
  rw [← h_q6] at l_
  rw [← h_q6, ← h_P] at fP
  replace fr := fr.mv l_
  replace fs := fs.mv l_
  replace fe := fe.mv l_
  replace fa := fa.mv l_
  replace f0 := f0.mv l_
  replace f1 := f1.mv l_
  replace f2 := f2.mv l_
  replace f3 := f3.mv l_
  replace f4 := f4.mv l_
  replace L := L.t l_
  have g := l_.good
  clear l_
  obtain ⟨q7, h_q7⟩ : ∃ x, x = linM q6 [⟨0, 1⟩] := ⟨_, rfl⟩
  obtain ⟨k1, h_k1⟩ : ∃ x : Int, x = (q6.vals.length : Int) := ⟨_, rfl⟩
  obtain ⟨l_, f5⟩ := lin1_lw g 1
  rw [← h_q7] at l_
  rw [← h_q7, ← h_k1] at f5
  replace fr := fr.mv l_
  replace fs := fs.mv l_
  replace fe := fe.mv l_
  replace fa := fa.mv l_
  replace f0 := f0.mv l_
  replace f1 := f1.mv l_
  replace f2 := f2.mv l_
  replace f3 := f3.mv l_
  replace f4 := f4.mv l_
  replace fP := fP.mv l_
  replace L := L.t l_
  have g := l_.good
  clear l_
  rw [show (1:Int) % 288230376287764481 = 1 from rfl] at f5
  obtain ⟨q8, h_q8⟩ : ∃ x, x = twoM q7 v0 k1 := ⟨_, rfl⟩
  obtain ⟨hi, h_hi⟩ : ∃ x : Int, x = twoR q7 v0 k1 := ⟨_, rfl⟩
  obtain ⟨l_, f6⟩ := two_lw g f0 f5
  rw [← h_q8] at l_
  rw [← h_q8, ← h_hi] at f6
  replace fr := fr.mv l_
  replace fs := fs.mv l_
  replace fe := fe.mv l_
  replace fa := fa.mv l_
  replace f0 := f0.mv l_
  replace f1 := f1.mv l_
  replace f2 := f2.mv l_
  replace f3 := f3.mv l_
  replace f4 := f4.mv l_
  replace fP := fP.mv l_
  replace f5 := f5.mv l_
  replace L := L.t l_
  have g := l_.good
  clear l_
  obtain ⟨q9, h_q9⟩ : ∃ x, x = linM q8 [⟨0, 2⟩] := ⟨_, rfl⟩
  obtain ⟨k2, h_k2⟩ : ∃ x : Int, x = (q8.vals.length : Int) := ⟨_, rfl⟩
  obtain ⟨l_, f7⟩ := lin1_lw g 2
  rw [← h_q9] at l_
  rw [← h_q9, ← h_k2] at f7
  replace fr := fr.mv l_
  replace fs := fs.mv l_
  replace fe := fe.mv l_
  replace fa := fa.mv l_
  replace f0 := f0.mv l_
  replace f1 := f1.mv l_
  replace f2 := f2.mv l_
  replace f3 := f3.mv l_
  replace f4 := f4.mv l_
  replace fP := fP.mv l_
  replace f5 := f5.mv l_
  replace f6 := f6.mv l_
  replace L := L.t l_
  have g := l_.good
  clear l_
  rw [show (2:Int) % 288230376287764481 = 2 from rfl] at f7
  obtain ⟨q10, h_q10⟩ : ∃ x, x = twoM q9 v0 k2 := ⟨_, rfl⟩
  obtain ⟨ow, h_ow⟩ : ∃ x : Int, x = twoR q9 v0 k2 := ⟨_, rfl⟩
  obtain ⟨l_, f8⟩ := two_lw g f0 f7
  rw [← h_q10] at l_
  rw [← h_q10, ← h_ow] at f8
  replace fr := fr.mv l_
  replace fs := fs.mv l_
  replace fe := fe.mv l_
  replace fa := fa.mv l_
  replace f0 := f0.mv l_
  replace f1 := f1.mv l_
  replace f2 := f2.mv l_
  replace f3 := f3.mv l_
  replace f4 := f4.mv l_
  replace fP := fP.mv l_
  replace f5 := f5.mv l_
  replace f6 := f6.mv l_
  replace f7 := f7.mv l_
  replace L := L.t l_
  have g := l_.good
  clear l_
  obtain ⟨q11, h_q11⟩ : ∃ x, x = sameM q10 ow v2 := ⟨_, rfl⟩
  have l_ := same_lw g f8 f2
  rw [← h_q11] at l_
  replace fr := fr.mv l_
  replace fs := fs.mv l_
  replace fe := fe.mv l_
  replace fa := fa.mv l_
  replace f0 := f0.mv l_
  replace f1 := f1.mv l_
  replace f2 := f2.mv l_
  replace f3 := f3.mv l_
  replace f4 := f4.mv l_
  replace fP := fP.mv l_
  replace f5 := f5.mv l_
  replace f6 := f6.mv l_
  replace f7 := f7.mv l_
  replace f8 := f8.mv l_
  replace L := L.trans l_
  have g := l_.good
  clear l_
  obtain ⟨q12, h_q12⟩ : ∃ x, x = (manE q11 [v1, v2, v3]).1 := ⟨_, rfl⟩
  obtain ⟨h12, h_h12⟩ : ∃ x : Int, x = (manE q11 [v1, v2, v3]).2 := ⟨_, rfl⟩
  obtain ⟨l_, f9⟩ := many_lw g (Vs.cons f1 (Vs.cons f2 (Vs.cons f3 Vs.nil)))
  rw [← h_q12] at l_
  rw [← h_q12, ← h_h12] at f9
  replace fr := fr.mv l_
  replace fs := fs.mv l_
  replace fe := fe.mv l_
  replace fa := fa.mv l_
  replace f0 := f0.mv l_
  replace f1 := f1.mv l_
  replace f2 := f2.mv l_
  replace f3 := f3.mv l_
  replace f4 := f4.mv l_
  replace fP := fP.mv l_
  replace f5 := f5.mv l_
  replace f6 := f6.mv l_
  replace f7 := f7.mv l_
  replace f8 := f8.mv l_
  replace L := L.t l_
  have g := l_.good
  clear l_
  obtain ⟨q13, h_q13⟩ : ∃ x, x = bitM q12 v4 p.length := ⟨_, rfl⟩
  obtain ⟨B, h_B⟩ : ∃ x, x = (bitE q12 v4 p.length).2.1 := ⟨_, rfl⟩
  obtain ⟨l_, fB⟩ := bit_lw g f4 (n := p.length) (by omega)
  rw [← h_q13] at l_
  rw [← h_q13, ← h_B] at fB
  replace fr := fr.mv l_
  replace fs := fs.mv l_
  replace fe := fe.mv l_
  replace fa := fa.mv l_
  replace f0 := f0.mv l_
  replace f1 := f1.mv l_
  replace f2 := f2.mv l_
  replace f3 := f3.mv l_
  replace f4 := f4.mv l_
  replace fP := fP.mv l_
  replace f5 := f5.mv l_
  replace f6 := f6.mv l_
  replace f7 := f7.mv l_
  replace f8 := f8.mv l_
  replace f9 := f9.mv l_
  replace L := L.trans l_
  have g := l_.good
  clear l_
  obtain ⟨q14, h_q14⟩ : ∃ x, x = (clmS B P q13 h12).1 := ⟨_, rfl⟩
  obtain ⟨h14, h_h14⟩ : ∃ x : Int, x = (clmS B P q13 h12).2 := ⟨_, rfl⟩
  obtain ⟨l_, f10⟩ := clm_lw P p B q13 h12 a _ g fP fB f9
  rw [← h_q14] at l_
  rw [← h_q14, ← h_h14] at f10
  replace fr := fr.mv l_
  replace fs := fs.mv l_
  replace fe := fe.mv l_
  replace fa := fa.mv l_
  replace f0 := f0.mv l_
  replace f1 := f1.mv l_
  replace f2 := f2.mv l_
  replace f3 := f3.mv l_
  replace f4 := f4.mv l_
  replace fP := fP.mv l_
  replace f5 := f5.mv l_
  replace f6 := f6.mv l_
  replace f7 := f7.mv l_
  replace f8 := f8.mv l_
  replace f9 := f9.mv l_
  replace fB := fB.mv l_
  replace L := L.t l_
  have g := l_.good
  clear l_
  obtain ⟨q15, h_q15⟩ : ∃ x, x = linM q14 (sumS 0 288230376287764480 [h14, ro]) := ⟨_, rfl⟩
  obtain ⟨k3, h_k3⟩ : ∃ x : Int, x = (q14.vals.length : Int) := ⟨_, rfl⟩
  obtain ⟨l_, f11⟩ := sum2_lw g 288230376287764480 f10 fr
  rw [← h_q15] at l_
  rw [← h_q15, ← h_k3] at f11
  replace fr := fr.mv l_
  replace fs := fs.mv l_
  replace fe := fe.mv l_
  replace fa := fa.mv l_
  replace f0 := f0.mv l_
  replace f1 := f1.mv l_
  replace f2 := f2.mv l_
  replace f3 := f3.mv l_
  replace f4 := f4.mv l_
  replace fP := fP.mv l_
  replace f5 := f5.mv l_
  replace f6 := f6.mv l_
  replace f7 := f7.mv l_
  replace f8 := f8.mv l_
  replace f9 := f9.mv l_
  replace fB := fB.mv l_
  replace f10 := f10.mv l_
  replace L := L.t l_
  have g := l_.good
  clear l_
  obtain ⟨q16, h_q16⟩ : ∃ x, x = mulM q15 v1 k3 := ⟨_, rfl⟩
  obtain ⟨off, h_off⟩ : ∃ x : Int, x = (q15.vals.length : Int) := ⟨_, rfl⟩
  obtain ⟨l_, f12⟩ := mul_lw g f1 f11
  rw [← h_q16] at l_
  rw [← h_q16, ← h_off] at f12
  replace fr := fr.mv l_
  replace fs := fs.mv l_
  replace fe := fe.mv l_
  replace fa := fa.mv l_
  replace f0 := f0.mv l_
  replace f1 := f1.mv l_
  replace f2 := f2.mv l_
  replace f3 := f3.mv l_
  replace f4 := f4.mv l_
  replace fP := fP.mv l_
  replace f5 := f5.mv l_
  replace f6 := f6.mv l_
  replace f7 := f7.mv l_
  replace f8 := f8.mv l_
  replace f9 := f9.mv l_
  replace fB := fB.mv l_
  replace f10 := f10.mv l_
  replace f11 := f11.mv l_
  replace L := L.t l_
  have g := l_.good
  clear l_
  obtain ⟨q17, h_q17⟩ : ∃ x, x = linM q16 [] := ⟨_, rfl⟩
  obtain ⟨k4, h_k4⟩ : ∃ x : Int, x = (q16.vals.length : Int) := ⟨_, rfl⟩
  obtain ⟨l_, f13⟩ := lin0_lw g
  rw [← h_q17] at l_
  rw [← h_q17, ← h_k4] at f13
  replace fr := fr.mv l_
  replace fs := fs.mv l_
  replace fe := fe.mv l_
  replace fa := fa.mv l_
  replace f0 := f0.mv l_
  replace f1 := f1.mv l_
  replace f2 := f2.mv l_
  replace f3 := f3.mv l_
  replace f4 := f4.mv l_
  replace fP := fP.mv l_
  replace f5 := f5.mv l_
  replace f6 := f6.mv l_
  replace f7 := f7.mv l_
  replace f8 := f8.mv l_
  replace f9 := f9.mv l_
  replace fB := fB.mv l_
  replace f10 := f10.mv l_
  replace f11 := f11.mv l_
  replace f12 := f12.mv l_
  replace L := L.t l_
  have g := l_.good
  clear l_
  obtain ⟨q18, h_q18⟩ : ∃ x, x = sameM q17 off k4 := ⟨_, rfl⟩
  have l_ := same_lw g f12 f13
  rw [← h_q18] at l_
  replace fr := fr.mv l_
  replace fs := fs.mv l_
  replace fe := fe.mv l_
  replace fa := fa.mv l_
  replace f0 := f0.mv l_
  replace f1 := f1.mv l_
  replace f2 := f2.mv l_
  replace f3 := f3.mv l_
  replace f4 := f4.mv l_
  replace fP := fP.mv l_
  replace f5 := f5.mv l_
  replace f6 := f6.mv l_
  replace f7 := f7.mv l_
  replace f8 := f8.mv l_
  replace f9 := f9.mv l_
  replace fB := fB.mv l_
  replace f10 := f10.mv l_
  replace f11 := f11.mv l_
  replace f12 := f12.mv l_
  replace f13 := f13.mv l_
  replace L := L.trans l_
  have g := l_.good
  clear l_
  obtain ⟨q19, h_q19⟩ : ∃ x, x = (manE q18 [hi, v3, v4]).1 := ⟨_, rfl⟩
  obtain ⟨h19, h_h19⟩ : ∃ x : Int, x = (manE q18 [hi, v3, v4]).2 := ⟨_, rfl⟩
  obtain ⟨l_, f14⟩ := many_lw g (Vs.cons f6 (Vs.cons f3 (Vs.cons f4 Vs.nil)))
  rw [← h_q19] at l_
  rw [← h_q19, ← h_h19] at f14
  replace fr := fr.mv l_
  replace fs := fs.mv l_
  replace fe := fe.mv l_
  replace fa := fa.mv l_
  replace f0 := f0.mv l_
  replace f1 := f1.mv l_
  replace f2 := f2.mv l_
  replace f3 := f3.mv l_
  replace f4 := f4.mv l_
  replace fP := fP.mv l_
  replace f5 := f5.mv l_
  replace f6 := f6.mv l_
  replace f7 := f7.mv l_
  replace f8 := f8.mv l_
  replace f9 := f9.mv l_
  replace fB := fB.mv l_
  replace f10 := f10.mv l_
  replace f11 := f11.mv l_
  replace f12 := f12.mv l_
  replace f13 := f13.mv l_
  replace L := L.t l_
  have g := l_.good
  clear l_
  obtain ⟨q20, h_q20⟩ : ∃ x, x = sameM q19 h19 en := ⟨_, rfl⟩
  have l_ := same_lw g f14 fe
  rw [← h_q20] at l_
  replace fr := fr.mv l_
  replace fs := fs.mv l_
  replace fe := fe.mv l_
  replace fa := fa.mv l_
  replace f0 := f0.mv l_
  replace f1 := f1.mv l_
  replace f2 := f2.mv l_
  replace f3 := f3.mv l_
  replace f4 := f4.mv l_
  replace fP := fP.mv l_
  replace f5 := f5.mv l_
  replace f6 := f6.mv l_
  replace f7 := f7.mv l_
  replace f8 := f8.mv l_
  replace f9 := f9.mv l_
  replace fB := fB.mv l_
  replace f10 := f10.mv l_
  replace f11 := f11.mv l_
  replace f12 := f12.mv l_
  replace f13 := f13.mv l_
  replace f14 := f14.mv l_
  replace L := L.trans l_
  have g := l_.good
  clear l_
  obtain ⟨q21, h_q21⟩ : ∃ x, x = twoM q20 hi si := ⟨_, rfl⟩
  obtain ⟨an1, h_an1⟩ : ∃ x : Int, x = twoR q20 hi si := ⟨_, rfl⟩
  obtain ⟨l_, f15⟩ := two_lw g f6 fs
  rw [← h_q21] at l_
  rw [← h_q21, ← h_an1] at f15
  replace fr := fr.mv l_
  replace fs := fs.mv l_
  replace fe := fe.mv l_
  replace fa := fa.mv l_
  replace f0 := f0.mv l_
  replace f1 := f1.mv l_
  replace f2 := f2.mv l_
  replace f3 := f3.mv l_
  replace f4 := f4.mv l_
  replace fP := fP.mv l_
  replace f5 := f5.mv l_
  replace f6 := f6.mv l_
  replace f7 := f7.mv l_
  replace f8 := f8.mv l_
  replace f9 := f9.mv l_
  replace fB := fB.mv l_
  replace f10 := f10.mv l_
  replace f11 := f11.mv l_
  replace f12 := f12.mv l_
  replace f13 := f13.mv l_
  replace f14 := f14.mv l_
  replace L := L.t l_
  have g := l_.good
  clear l_
  obtain ⟨q22, h_q22⟩ : ∃ x, x = sameM q21 an1 an := ⟨_, rfl⟩
  have l_ := same_lw g f15 fa
  rw [← h_q22] at l_
  replace fr := fr.mv l_
  replace fs := fs.mv l_
  replace fe := fe.mv l_
  replace fa := fa.mv l_
  replace f0 := f0.mv l_
  replace f1 := f1.mv l_
  replace f2 := f2.mv l_
  replace f3 := f3.mv l_
  replace f4 := f4.mv l_
  replace fP := fP.mv l_
  replace f5 := f5.mv l_
  replace f6 := f6.mv l_
  replace f7 := f7.mv l_
  replace f8 := f8.mv l_
  replace f9 := f9.mv l_
  replace fB := fB.mv l_
  replace f10 := f10.mv l_
  replace f11 := f11.mv l_
  replace f12 := f12.mv l_
  replace f13 := f13.mv l_
  replace f14 := f14.mv l_
  replace f15 := f15.mv l_
  replace L := L.trans l_
  have g := l_.good
  clear l_
  have eI : inpM m k v o rh a p p.length ro si en an = q22 := by
    subst h_q1 h_v0 h_q2 h_v1 h_q3 h_v2 h_q4 h_v3 h_q5 h_v4 h_q6 h_P h_q7 h_k1 h_q8 h_hi h_q9 h_k2 h_q10 h_ow h_q11 h_q12 h_h12 h_q13 h_B h_q14 h_h14 h_q15 h_k3 h_q16 h_off h_q17 h_k4 h_q18 h_q19 h_h19 h_q20 h_q21 h_an1 h_q22
    rfl
  have eV : ((freshM m k).vals.length : Int) = v1 := by rw [h_v1, h_q1]
  rw [eI, eV]
  refine ⟨L.iff ?_, f1⟩
  have e0 : a / 2 ^ p.length = 0 := Int.ediv_eq_zero_of_lt ha.1 ha.2
  have hc : 0 ≤ climbH p a (manyH [v, o, rh]) ∧ climbH p a (manyH [v, o, rh]) < 288230376287764481 := climbH_l (manyH_lt _) _ _
  have e1 : v * ((climbH p a (manyH [v, o, rh]) + 288230376287764480 * zr) % 288230376287764481) % 288230376287764481 = 0 ↔ v = 0 ∨ climbH p a (mrkH (v, o, rh)) = zr := by
    rw [mul_zero hv.1 hv.2, Int.emod_emod]
    show _ ↔ v = 0 ∨ climbH p a (manyH [v, o, rh]) = zr
    generalize climbH p a (manyH [v, o, rh]) = C at *
    constructor
    · rintro (h | h)
      · exact .inl h
      · right; omega
    · rintro (h | rfl)
      · exact .inl h
      · right; omega
  have e2 : (twoH k 2 = o) ↔ (o = twoH k 2) := eq_comm
  rw [e1, e0, e2]
  unfold endH
  simp only [true_and, and_true]
set_option maxHeartbeats 4000000 in
theorem out_lw {m : Mk} (g : Good m) {v o rh e ze : Int} (hv : 0 ≤ v ∧ v < 288230376287764481) (ho : 0 ≤ o ∧ o < 288230376287764481) (hrh : 0 ≤ rh ∧ rh < 288230376287764481) (fe : Vl m e ze) :
    Lw m (outM m (v, o, rh) e) (v < 4294967296 ∧ mrkH (v, o, rh) = ze) ∧ Vl (outM m (v, o, rh) e) m.vals.length v := by
  have L := Lw.refl g
  obtain ⟨q1, h_q1⟩ : ∃ x, x = freshM m v := ⟨_, rfl⟩
  obtain ⟨v1, h_v1⟩ : ∃ x : Int, x = (m.vals.length : Int) := ⟨_, rfl⟩
  obtain ⟨l_, f1⟩ := fresh_lw g hv
  rw [← h_q1] at l_
  rw [← h_q1, ← h_v1] at f1
  replace fe := fe.mv l_
  replace L := L.t l_
  have g := l_.good
  clear l_
  obtain ⟨q2, h_q2⟩ : ∃ x, x = freshM q1 o := ⟨_, rfl⟩
  obtain ⟨v2, h_v2⟩ : ∃ x : Int, x = (q1.vals.length : Int) := ⟨_, rfl⟩
  obtain ⟨l_, f2⟩ := fresh_lw g ho
  rw [← h_q2] at l_
  rw [← h_q2, ← h_v2] at f2
  replace fe := fe.mv l_
  replace f1 := f1.mv l_
  replace L := L.t l_
  have g := l_.good
  clear l_
  obtain ⟨q3, h_q3⟩ : ∃ x, x = freshM q2 rh := ⟨_, rfl⟩
  obtain ⟨v3, h_v3⟩ : ∃ x : Int, x = (q2.vals.length : Int) := ⟨_, rfl⟩
  obtain ⟨l_, f3⟩ := fresh_lw g hrh
  rw [← h_q3] at l_
  rw [← h_q3, ← h_v3] at f3
  replace fe := fe.mv l_
  replace f1 := f1.mv l_
  replace f2 := f2.mv l_
  replace L := L.t l_
  have g := l_.good
  clear l_
  obtain ⟨q4, h_q4⟩ : ∃ x, x = bitM q3 v1 32 := ⟨_, rfl⟩
  obtain ⟨B, h_B⟩ : ∃ x, x = (bitE q3 v1 32).2.1 := ⟨_, rfl⟩
  obtain ⟨l_, fB⟩ := bit_lw g f1 (n := 32) (by decide)
  rw [show ((32:Nat):Int) = 32 from rfl] at l_ fB
  rw [← h_q4] at l_
  rw [← h_q4, ← h_B] at fB
  replace fe := fe.mv l_
  replace f1 := f1.mv l_
  replace f2 := f2.mv l_
  replace f3 := f3.mv l_
  replace L := L.trans l_
  have g := l_.good
  clear l_
  obtain ⟨q5, h_q5⟩ : ∃ x, x = (manE q4 [v1, v2, v3]).1 := ⟨_, rfl⟩
  obtain ⟨h5, h_h5⟩ : ∃ x : Int, x = (manE q4 [v1, v2, v3]).2 := ⟨_, rfl⟩
  obtain ⟨l_, f4⟩ := many_lw g (Vs.cons f1 (Vs.cons f2 (Vs.cons f3 Vs.nil)))
  rw [← h_q5] at l_
  rw [← h_q5, ← h_h5] at f4
  replace fe := fe.mv l_
  replace f1 := f1.mv l_
  replace f2 := f2.mv l_
  replace f3 := f3.mv l_
  replace fB := fB.mv l_
  replace L := L.t l_
  have g := l_.good
  clear l_
  obtain ⟨q6, h_q6⟩ : ∃ x, x = sameM q5 h5 e := ⟨_, rfl⟩
  have l_ := same_lw g f4 fe
  rw [← h_q6] at l_
  replace fe := fe.mv l_
  replace f1 := f1.mv l_
  replace f2 := f2.mv l_
  replace f3 := f3.mv l_
  replace fB := fB.mv l_
  replace f4 := f4.mv l_
  replace L := L.trans l_
  have g := l_.good
  clear l_
  have eI : outM m (v, o, rh) e = q6 := by
    subst h_q1 h_v1 h_q2 h_v2 h_q3 h_v3 h_q4 h_q5 h_h5 h_q6
    unfold outM
    dsimp only
  rw [eI, ← h_v1]
  refine ⟨L.iff ?_, f1⟩
  have e1 : v / 2 ^ 32 = 0 ↔ v < 4294967296 := by omega
  rw [e1]
  unfold mrkH
  simp only [true_and]
end Go.Proofs.YtngphcdhdllnnaaGreat.E.M
end
section
/- The system of a move holds just if it is right; it does not hang on values: the plain law. -/
set_option linter.unusedVariables false
set_option linter.unusedSimpArgs false
set_option maxRecDepth 10000
open Go Go.Proofs.YtngphcdhdllnnaaGreat.E Go.Proofs
namespace Go.Proofs.YtngphcdhdllnnaaGreat.E.M
theorem pubK_good (V : List Int) : Good (pubK V) where
  v := by simp [pubK]
  p0 := by show (0:Int) ≤ (V.length : Int); omega
  p1 := by show (V.length : Int) < _; simp [pubK]; omega
  one := rfl
  lt := fun v hv => by
    simp only [pubK, List.mem_cons, List.mem_map] at hv
    rcases hv with rfl | ⟨w, _, rfl⟩
    · decide
    · exact ⟨Int.emod_nonneg _ (by decide), Int.emod_lt_of_pos w (by decide)⟩
  rows := fun r hr => by cases hr
theorem pubK_all (V : List Int) : AllH (pubK V) := fun r hr => by cases hr
theorem pubK_vl {V : List Int} {k : Nat} (h : k < V.length) {x : Int} (hx : V[k]? = some x) (hl : 0 ≤ x ∧ x < 288230376287764481) : Vl (pubK V) ((k + 1 : Nat) : Int) x := by
  refine ⟨by omega, by simp [pubK]; omega, ?_⟩
  unfold gV
  rw [if_pos ⟨by omega, by simp [pubK]; omega⟩]
  have e : (((k + 1 : Nat) : Int)).toNat = k + 1 := rfl
  rw [e]
  show ((1 :: V.map fun v => v % 288230376287764481)[k + 1]?).getD 0 = x
  rw [List.getElem?_cons_succ, List.getElem?_map, hx]
  show x % 288230376287764481 = x
  omega
theorem hash_lt (a b : Int) : 0 ≤ twoH a b ∧ twoH a b < 288230376287764481 := by have := twoH_l a b; exact this
abbrev frN (n : Int × Int × Int) : Prop := (0 ≤ n.1 ∧ n.1 < 288230376287764481) ∧ (0 ≤ n.2.1 ∧ n.2.1 < 288230376287764481) ∧ (0 ≤ n.2.2 ∧ n.2.2 < 288230376287764481)
structure frI (x : Ip) (d : Int) : Prop where
  k : 0 ≤ x.k ∧ x.k < 288230376287764481
  n : frN x.n
  l : d = x.p.length
  l2 : x.p.length ≤ 16
  a : 0 ≤ x.a ∧ x.a < 2 ^ x.p.length
  p : ∀ v ∈ x.p, 0 ≤ v ∧ v < 288230376287764481
/-- a move whose numbers are all below R, and whose paths are «as» long «as» the depth -/
structure frM (m : Mv) (d : Int) : Prop where
  r : 0 ≤ m.r ∧ m.r < 288230376287764481
  i : 0 ≤ m.i ∧ m.i < 288230376287764481
  o : 0 ≤ m.o ∧ m.o < 288230376287764481
  s : 0 ≤ m.s ∧ m.s < 288230376287764481
  x : frI m.x d
  y : frI m.y d
  p : frN m.p
  q : frN m.q
theorem frM.of {m : Mv} {d : Int} (hm : wM m) (hf : fitsH m d = true) : frM m d := by
  obtain ⟨mr, mi, mo, ms, ⟨xk, ⟨xv, xo, xr⟩, xa, xp⟩, ⟨yk, ⟨yv, yo, yr⟩, ya, yp⟩, ⟨pv, po, pr⟩, ⟨qv, qo, qr⟩⟩ := m
  obtain ⟨w1, w2, w3, w4, ⟨x1, ⟨x2, x3, x4⟩, x5, x6, x7⟩, ⟨y1, ⟨y2, y3, y4⟩, y5, y6, y7⟩, ⟨p1, p2, p3⟩, ⟨q1, q2, q3⟩⟩ := hm
  simp only [fitsH, hdF, inF, outF, Bool.and_eq_true, decide_eq_true_eq, bw, List.all_eq_true] at hf
  simp only at w1 w2 w3 w4 x1 x2 x3 x4 x5 x6 x7 y1 y2 y3 y4 y5 y6 y7 p1 p2 p3 q1 q2 q3
  obtain ⟨⟨⟨⟨⟨⟨hd, h1⟩, h2⟩, h3⟩, h4⟩, ⟨⟨⟨⟨⟨⟨⟨ex, ax⟩, bx⟩, cx⟩, dx⟩, fx⟩, gx⟩, px⟩, ⟨⟨p4, p5⟩, p6⟩⟩, ⟨⟨⟨⟨⟨⟨⟨ey, ay⟩, by_⟩, cy⟩, dy⟩, fy⟩, gy⟩, py⟩, ⟨⟨q4, q5⟩, q6⟩⟩ := hf
  have tx : d.toNat = xp.length := by omega
  have ty : d.toNat = yp.length := by omega
  have lx : xp.length ≤ 16 := by omega
  have ly : yp.length ≤ 16 := by omega
  rw [tx] at bx
  rw [ty] at by_
  exact ⟨⟨w1.1, h1⟩, ⟨w2.1, h2⟩, ⟨w3.1, h3⟩, ⟨w4.1, h4⟩, ⟨⟨x1.1, cx⟩, ⟨⟨x2.1, dx⟩, ⟨x3.1, fx⟩, ⟨x4.1, gx⟩⟩, ex.symm, lx, ⟨ax, bx⟩, fun v hv => ⟨(x6 v hv).1, px v hv⟩⟩,
    ⟨⟨y1.1, cy⟩, ⟨⟨y2.1, dy⟩, ⟨y3.1, fy⟩, ⟨y4.1, gy⟩⟩, ey.symm, ly, ⟨ay, by_⟩, fun v hv => ⟨(y6 v hv).1, py v hv⟩⟩, ⟨⟨p1.1, p4⟩, ⟨p2.1, p5⟩, ⟨p3.1, p6⟩⟩, ⟨⟨q1.1, q4⟩, ⟨q2.1, q5⟩, ⟨q3.1, q6⟩⟩⟩
set_option maxHeartbeats 16000000 in
theorem make_law {m : Mv} {d : Int} (h : frM m d) : Good (makM m d) ∧ (AllH (makM m d) ↔ rightH m = true) := by
  obtain ⟨mr, mi, mo, ms, ⟨xk, ⟨xv, xo, xr⟩, xa, xp⟩, ⟨yk, ⟨yv, yo, yr⟩, ya, yp⟩, ⟨pv, po, pr⟩, ⟨qv, qo, qr⟩⟩ := m
  obtain ⟨h1, h2, h3, h4, ⟨x1, ⟨x2, x3, x4⟩, xl, xl2, x5, x6⟩, ⟨y1, ⟨y2, y3, y4⟩, yl, yl2, y5, y6⟩, ⟨p1, p2, p3⟩, ⟨q1, q2, q3⟩⟩ := h
  simp only at h1 h2 h3 h4 x1 x2 x3 x4 xl xl2 x5 x6 y1 y2 y3 y4 yl yl2 y5 y6 p1 p2 p3 q1 q2 q3
  obtain ⟨M, hM⟩ : ∃ x : Mv, x = ⟨mr, mi, mo, ms, ⟨xk, (xv, xo, xr), xa, xp⟩, ⟨yk, (yv, yo, yr), ya, yp⟩, (pv, po, pr), (qv, qo, qr)⟩ := ⟨_, rfl⟩
  have g0 := pubK_good (numsH M)
  have a0 := pubK_all (numsH M)
  obtain ⟨ex, hex⟩ : ∃ z, z = endH ⟨xk, (xv, xo, xr), xa, xp⟩ := ⟨_, rfl⟩
  obtain ⟨ey, hey⟩ : ∃ z, z = endH ⟨yk, (yv, yo, yr), ya, yp⟩ := ⟨_, rfl⟩
  obtain ⟨kp, hkp⟩ : ∃ z, z = mrkH (pv, po, pr) := ⟨_, rfl⟩
  obtain ⟨kq, hkq⟩ : ∃ z, z = mrkH (qv, qo, qr) := ⟨_, rfl⟩
  obtain ⟨ax, hax⟩ : ∃ z, z = twoH (twoH xk 1) ms := ⟨_, rfl⟩
  obtain ⟨ay, hay⟩ : ∃ z, z = twoH (twoH yk 1) ms := ⟨_, rfl⟩
  have hN : numsH M = [mr, mi, mo, ms, ex, ey, kp, kq, ax, ay] := by rw [hM, hex, hey, hkp, hkq, hax, hay]; rfl
  have l1 : 0 ≤ ex ∧ ex < 288230376287764481 := by rw [hex]; exact manyH_lt _
  have l2 : 0 ≤ ey ∧ ey < 288230376287764481 := by rw [hey]; exact manyH_lt _
  have l3 : 0 ≤ kp ∧ kp < 288230376287764481 := by rw [hkp]; exact manyH_lt _
  have l4 : 0 ≤ kq ∧ kq < 288230376287764481 := by rw [hkq]; exact manyH_lt _
  have l5 : 0 ≤ ax ∧ ax < 288230376287764481 := by rw [hax]; exact hash_lt _ _
  have l6 : 0 ≤ ay ∧ ay < 288230376287764481 := by rw [hay]; exact hash_lt _ _
  have f1 : Vl (pubK (numsH M)) 1 mr := by rw [hN]; exact pubK_vl (V := [mr, mi, mo, ms, ex, ey, kp, kq, ax, ay]) (k := 0) (by simp) rfl h1
  have f2 : Vl (pubK (numsH M)) 2 mi := by rw [hN]; exact pubK_vl (V := [mr, mi, mo, ms, ex, ey, kp, kq, ax, ay]) (k := 1) (by simp) rfl h2
  have f3 : Vl (pubK (numsH M)) 3 mo := by rw [hN]; exact pubK_vl (V := [mr, mi, mo, ms, ex, ey, kp, kq, ax, ay]) (k := 2) (by simp) rfl h3
  have f4 : Vl (pubK (numsH M)) 4 ms := by rw [hN]; exact pubK_vl (V := [mr, mi, mo, ms, ex, ey, kp, kq, ax, ay]) (k := 3) (by simp) rfl h4
  have f5 : Vl (pubK (numsH M)) 5 ex := by rw [hN]; exact pubK_vl (V := [mr, mi, mo, ms, ex, ey, kp, kq, ax, ay]) (k := 4) (by simp) rfl l1
  have f6 : Vl (pubK (numsH M)) 6 ey := by rw [hN]; exact pubK_vl (V := [mr, mi, mo, ms, ex, ey, kp, kq, ax, ay]) (k := 5) (by simp) rfl l2
  have f7 : Vl (pubK (numsH M)) 7 kp := by rw [hN]; exact pubK_vl (V := [mr, mi, mo, ms, ex, ey, kp, kq, ax, ay]) (k := 6) (by simp) rfl l3
  have f8 : Vl (pubK (numsH M)) 8 kq := by rw [hN]; exact pubK_vl (V := [mr, mi, mo, ms, ex, ey, kp, kq, ax, ay]) (k := 7) (by simp) rfl l4
  have f9 : Vl (pubK (numsH M)) 9 ax := by rw [hN]; exact pubK_vl (V := [mr, mi, mo, ms, ex, ey, kp, kq, ax, ay]) (k := 8) (by simp) rfl l5
  have f10 : Vl (pubK (numsH M)) 10 ay := by rw [hN]; exact pubK_vl (V := [mr, mi, mo, ms, ex, ey, kp, kq, ax, ay]) (k := 9) (by simp) rfl l6
  have hmk : makM ⟨mr, mi, mo, ms, ⟨xk, (xv, xo, xr), xa, xp⟩, ⟨yk, (yv, yo, yr), ya, yp⟩, (pv, po, pr), (qv, qo, qr)⟩ d = makM M d := by rw [hM]
  rw [hmk]
  have L := Lw.refl g0
  have g := g0
  obtain ⟨G1, h_G1⟩ : ∃ x, x = inpM (pubK (numsH M)) xk xv xo xr xa xp d 1 4 5 9 := ⟨_, rfl⟩
  obtain ⟨V1, h_V1⟩ : ∃ x : Int, x = ((freshM (pubK (numsH M)) xk).vals.length : Int) := ⟨_, rfl⟩
  obtain ⟨l_, fx⟩ := inp_lw g x1 x2 x3 x4 x6 xl2 x5 xl f1 f4 f5 f9
  rw [← h_G1] at l_
  rw [← h_G1, ← h_V1] at fx
  replace f1 := f1.mv l_
  replace f2 := f2.mv l_
  replace f3 := f3.mv l_
  replace f4 := f4.mv l_
  replace f5 := f5.mv l_
  replace f6 := f6.mv l_
  replace f7 := f7.mv l_
  replace f8 := f8.mv l_
  replace f9 := f9.mv l_
  replace f10 := f10.mv l_
  replace L := L.trans l_
  have g := l_.good
  clear l_
  obtain ⟨G2, h_G2⟩ : ∃ x, x = inpM G1 yk yv yo yr ya yp d 1 4 6 10 := ⟨_, rfl⟩
  obtain ⟨V2, h_V2⟩ : ∃ x : Int, x = ((freshM G1 yk).vals.length : Int) := ⟨_, rfl⟩
  obtain ⟨l_, fy⟩ := inp_lw g y1 y2 y3 y4 y6 yl2 y5 yl f1 f4 f6 f10
  rw [← h_G2] at l_
  rw [← h_G2, ← h_V2] at fy
  replace f1 := f1.mv l_
  replace f2 := f2.mv l_
  replace f3 := f3.mv l_
  replace f4 := f4.mv l_
  replace f5 := f5.mv l_
  replace f6 := f6.mv l_
  replace f7 := f7.mv l_
  replace f8 := f8.mv l_
  replace f9 := f9.mv l_
  replace f10 := f10.mv l_
  replace fx := fx.mv l_
  replace L := L.trans l_
  have g := l_.good
  clear l_
  obtain ⟨G3, h_G3⟩ : ∃ x, x = outM G2 (pv, po, pr) 7 := ⟨_, rfl⟩
  obtain ⟨V3, h_V3⟩ : ∃ x : Int, x = (G2.vals.length : Int) := ⟨_, rfl⟩
  obtain ⟨l_, fp⟩ := out_lw g p1 p2 p3 f7
  rw [← h_G3] at l_
  rw [← h_G3, ← h_V3] at fp
  replace f1 := f1.mv l_
  replace f2 := f2.mv l_
  replace f3 := f3.mv l_
  replace f4 := f4.mv l_
  replace f5 := f5.mv l_
  replace f6 := f6.mv l_
  replace f7 := f7.mv l_
  replace f8 := f8.mv l_
  replace f9 := f9.mv l_
  replace f10 := f10.mv l_
  replace fx := fx.mv l_
  replace fy := fy.mv l_
  replace L := L.trans l_
  have g := l_.good
  clear l_
  obtain ⟨G4, h_G4⟩ : ∃ x, x = outM G3 (qv, qo, qr) 8 := ⟨_, rfl⟩
  obtain ⟨V4, h_V4⟩ : ∃ x : Int, x = (G3.vals.length : Int) := ⟨_, rfl⟩
  obtain ⟨l_, fq⟩ := out_lw g q1 q2 q3 f8
  rw [← h_G4] at l_
  rw [← h_G4, ← h_V4] at fq
  replace f1 := f1.mv l_
  replace f2 := f2.mv l_
  replace f3 := f3.mv l_
  replace f4 := f4.mv l_
  replace f5 := f5.mv l_
  replace f6 := f6.mv l_
  replace f7 := f7.mv l_
  replace f8 := f8.mv l_
  replace f9 := f9.mv l_
  replace f10 := f10.mv l_
  replace fx := fx.mv l_
  replace fy := fy.mv l_
  replace fp := fp.mv l_
  replace L := L.trans l_
  have g := l_.good
  clear l_
  obtain ⟨G5, h_G5⟩ : ∃ x, x = linM G4 (sumS 0 1 [2, V1, V2]) := ⟨_, rfl⟩
  obtain ⟨V5, h_V5⟩ : ∃ x : Int, x = (G4.vals.length : Int) := ⟨_, rfl⟩
  obtain ⟨l_, fa⟩ := sum3_lw g f2 fx fy
  rw [← h_G5] at l_
  rw [← h_G5, ← h_V5] at fa
  replace f1 := f1.mv l_
  replace f2 := f2.mv l_
  replace f3 := f3.mv l_
  replace f4 := f4.mv l_
  replace f5 := f5.mv l_
  replace f6 := f6.mv l_
  replace f7 := f7.mv l_
  replace f8 := f8.mv l_
  replace f9 := f9.mv l_
  replace f10 := f10.mv l_
  replace fx := fx.mv l_
  replace fy := fy.mv l_
  replace fp := fp.mv l_
  replace fq := fq.mv l_
  replace L := L.t l_
  have g := l_.good
  clear l_
  obtain ⟨G6, h_G6⟩ : ∃ x, x = linM G5 (sumS 0 1 [3, V3, V4]) := ⟨_, rfl⟩
  obtain ⟨V6, h_V6⟩ : ∃ x : Int, x = (G5.vals.length : Int) := ⟨_, rfl⟩
  obtain ⟨l_, fb⟩ := sum3_lw g f3 fp fq
  rw [← h_G6] at l_
  rw [← h_G6, ← h_V6] at fb
  replace f1 := f1.mv l_
  replace f2 := f2.mv l_
  replace f3 := f3.mv l_
  replace f4 := f4.mv l_
  replace f5 := f5.mv l_
  replace f6 := f6.mv l_
  replace f7 := f7.mv l_
  replace f8 := f8.mv l_
  replace f9 := f9.mv l_
  replace f10 := f10.mv l_
  replace fx := fx.mv l_
  replace fy := fy.mv l_
  replace fp := fp.mv l_
  replace fq := fq.mv l_
  replace fa := fa.mv l_
  replace L := L.t l_
  have g := l_.good
  clear l_
  obtain ⟨GF, h_GF⟩ : ∃ x, x = sameM G6 V5 V6 := ⟨_, rfl⟩
  have l_ := same_lw g fa fb
  rw [← h_GF] at l_
  replace f1 := f1.mv l_
  replace f2 := f2.mv l_
  replace f3 := f3.mv l_
  replace f4 := f4.mv l_
  replace f5 := f5.mv l_
  replace f6 := f6.mv l_
  replace f7 := f7.mv l_
  replace f8 := f8.mv l_
  replace f9 := f9.mv l_
  replace f10 := f10.mv l_
  replace fx := fx.mv l_
  replace fy := fy.mv l_
  replace fp := fp.mv l_
  replace fq := fq.mv l_
  replace fa := fa.mv l_
  replace fb := fb.mv l_
  replace L := L.trans l_
  have g := l_.good
  clear l_
  have eI : makM M d = GF := by
    subst h_G1 h_V1 h_G2 h_V2 h_V3 h_G3 h_V4 h_G4 h_V5 h_G5 h_V6 h_G6 h_GF
    rw [hM]
    rfl
  rw [eI]
  refine ⟨g, L.all.trans ?_⟩
  have n1 : nonneg xa = xa := by unfold nonneg; rw [if_neg (by omega)]
  have n2 : nonneg ya = ya := by unfold nonneg; rw [if_neg (by omega)]
  have e5 : ((mi + (xv + yv)) % 288230376287764481 = (mo + (pv + qv)) % 288230376287764481) ↔ rAdd (rAdd mi xv) yv = rAdd (rAdd mo pv) qv := by
    unfold rAdd
    rw [show ((mi + xv) % 288230376287764481 + yv) % 288230376287764481 = (mi + (xv + yv)) % 288230376287764481 by omega, show ((mo + pv) % 288230376287764481 + qv) % 288230376287764481 = (mo + (pv + qv)) % 288230376287764481 by omega]
  rw [e5]
  unfold rightH okI
  simp only [Bool.and_eq_true, Bool.or_eq_true, decide_eq_true_eq, n1, n2]
  rw [← hex, ← hey, ← hkp, ← hkq, ← hax, ← hay]
  simp only [a0, true_and, and_true]
  constructor
  · rintro ⟨⟨⟨⟨⟨c1, c2⟩, ⟨c3, c4⟩⟩, c5⟩, c6⟩, c7⟩
    exact ⟨⟨⟨⟨c1, c2⟩, c5⟩, ⟨c3, c4⟩, c6⟩, c7⟩
  · rintro ⟨⟨⟨⟨c1, c2⟩, c5⟩, ⟨c3, c4⟩, c6⟩, c7⟩
    exact ⟨⟨⟨⟨⟨c1, c2⟩, ⟨c3, c4⟩⟩, c5⟩, c6⟩, c7⟩
/-! ### how long it is -/
theorem makM_ok {j : Nat} {m : Mv} {d : Int} (h : frM m d) (o : Mok (2300 + j) (pubK (numsH m))) : Mok j (makM m d) := by
  have o1 : Mok (1400 + j) (mkG1 m d) := inpM_ok (Mok.mono o (by omega)) _ _ _ _ _ h.x.l2 _ _ _ _ _
  have o2 : Mok (500 + j) (mkG2 m d) := inpM_ok (Mok.mono o1 (by omega)) _ _ _ _ _ h.y.l2 _ _ _ _ _
  have o3 : Mok (300 + j) (mkG3 m d) := outM_ok (Mok.mono o2 (by omega)) _ _
  have o4 : Mok (100 + j) (mkG4 m d) := outM_ok (Mok.mono o3 (by omega)) _ _
  have o5 : Mok (98 + j) (mkG5 m d) := Mok.lin (Mok.mono o4 (by omega)) _
  have o6 : Mok (96 + j) (mkG6 m d) := Mok.lin (Mok.mono o5 (by omega)) _
  exact Mok.row (Mok.mono o6 (by omega)) _ _ _
theorem makM_len {m : Mv} {d : Int} (h : frM m d) : (makM m d).vals.length ≤ 2400 ∧ (makM m d).rows.length ≤ 2400 := by
  have e : (numsH m).length = 10 := rfl
  have e1 : (pubK (numsH m)).vals.length = 11 := by simp [pubK, e]
  have e2 : (pubK (numsH m)).rows.length = 0 := rfl
  obtain ⟨j, hj⟩ : ∃ j : Nat, j + 2400 = 1000000 := ⟨997600, rfl⟩
  have o : Mok (2300 + j) (pubK (numsH m)) := by
    have h10 := pubK_ok (V := numsH m) (by rw [e]; decide)
    exact ⟨by rw [e1]; omega, by rw [e2]; omega, h10.2.2⟩
  have := makM_ok h o
  exact ⟨by have := this.1; omega, by have := this.2.1; omega⟩
/-! ### the shape -/
theorem Shp.frS : ∀ (V V' : List Int) {m m' : Mk}, V.length = V'.length → Shp m m' → Shp (frS V m) (frS V' m') ∧ ixS V m.vals.length = ixS V' m'.vals.length
  | [], [], _, _, _, h => ⟨h, rfl⟩
  | [], _ :: _, _, _, e, _ => by simp at e
  | _ :: _, [], _, _, e, _ => by simp at e
  | v :: V, v' :: V', m, m', e, h => by
    have ih := Shp.frS V V' (m := freshM m v) (m' := freshM m' v') (by simpa using e) (h.fresh _ _)
    refine ⟨ih.1, ?_⟩
    have e1 := ih.2
    simp only [fresh_len] at e1
    simp only [M.ixS, h.len]
    rw [h.len] at e1
    rw [e1]
theorem Shp.pth {V V' : List Int} {m m' : Mk} (e : V.length = V'.length) (h : Shp m m') : Shp (pthS V m []).1 (pthS V' m' []).1 ∧ (pthS V m []).2 = (pthS V' m' []).2 := by
  rw [pthS_eq, pthS_eq]
  have := Shp.frS V V' e h
  exact ⟨this.1, by show [] ++ _ = [] ++ _; rw [this.2]⟩
theorem Shp.mul {m m' : Mk} (h : Shp m m') (a b : Int) : Shp (mulM m a b) (mulM m' a b) := by unfold mulM isMk; rw [h.is, h.is]; exact h.prod _ _
theorem Shp.same {m m' : Mk} (h : Shp m m') (a b : Int) : Shp (sameM m a b) (sameM m' a b) := by unfold sameM isMk; rw [h.is, h.is]; exact h.row _ _ _
theorem Shp.many {m m' : Mk} (h : Shp m m') (V : List Int) : Shp (manE m V).1 (manE m' V).1 ∧ (manE m V).2 = (manE m' V).2 := by unfold manE; rw [h.len]; exact Shp.manS _ _ (h.lin _)
theorem Shp.bitx {m m' : Mk} (h : Shp m m') (a n : Int) : (bitE m a n).2.1 = (bitE m' a n).2.1 := by
  have hb := Shp.bitS (isM m'.vals a) (bitN n) 0 [] [] h
  unfold bitE
  rw [h.is, hb.2]
theorem Shp.clm : ∀ (B P : List Int) {m m' : Mk} (h : Int), Shp m m' → Shp (clmS B P m h).1 (clmS B P m' h).1 ∧ (clmS B P m h).2 = (clmS B P m' h).2
  | [], _, m, m', h, s => by simp only [clmS]; exact ⟨s, trivial⟩
  | _ :: _, [], m, m', h, s => by simp only [clmS]; exact ⟨s, trivial⟩
  | b :: B, p :: P, m, m', h, s => by
    simp only [clmS]
    have s1 := s.cho b p h
    have s2 := s1.cho b h p
    have s3 := s2.two m'.vals.length (choM m' b p h).vals.length
    rw [s.len, s1.len, s3.2]
    exact Shp.clm B P _ s3.1
set_option maxHeartbeats 16000000 in
theorem Shp.inp {m m' : Mk} (s : Shp m m') (k v o rh a : Int) (p : List Int) (k' v' o' rh' a' : Int) (p' : List Int) (e : p.length = p'.length) (d ro si en an : Int) : Shp (inpM m k v o rh a p d ro si en an) (inpM m' k' v' o' rh' a' p' d ro si en an) := by
  obtain ⟨q1, h_q1⟩ : ∃ x, x = freshM m k := ⟨_, rfl⟩
  obtain ⟨r1, h_r1⟩ : ∃ x, x = freshM m' k' := ⟨_, rfl⟩
  have s1 := s.fresh k k'
  rw [← h_q1, ← h_r1] at s1
  obtain ⟨v0, h_v0⟩ : ∃ x, x = ((m').vals.length : Int) := ⟨_, rfl⟩
  have u_v0 : ((m).vals.length : Int) = v0 := by rw [h_v0]; exact congrArg (fun n : Nat => (n : Int)) s.len
  obtain ⟨q2, h_q2⟩ : ∃ x, x = freshM q1 v := ⟨_, rfl⟩
  obtain ⟨r2, h_r2⟩ : ∃ x, x = freshM r1 v' := ⟨_, rfl⟩
  have s2 := s1.fresh v v'
  rw [← h_q2, ← h_r2] at s2
  obtain ⟨v1, h_v1⟩ : ∃ x, x = ((r1).vals.length : Int) := ⟨_, rfl⟩
  have u_v1 : ((q1).vals.length : Int) = v1 := by rw [h_v1]; exact congrArg (fun n : Nat => (n : Int)) s1.len
  obtain ⟨q3, h_q3⟩ : ∃ x, x = freshM q2 o := ⟨_, rfl⟩
  obtain ⟨r3, h_r3⟩ : ∃ x, x = freshM r2 o' := ⟨_, rfl⟩
  have s3 := s2.fresh o o'
  rw [← h_q3, ← h_r3] at s3
  obtain ⟨v2, h_v2⟩ : ∃ x, x = ((r2).vals.length : Int) := ⟨_, rfl⟩
  have u_v2 : ((q2).vals.length : Int) = v2 := by rw [h_v2]; exact congrArg (fun n : Nat => (n : Int)) s2.len
  obtain ⟨q4, h_q4⟩ : ∃ x, x = freshM q3 rh := ⟨_, rfl⟩
  obtain ⟨r4, h_r4⟩ : ∃ x, x = freshM r3 rh' := ⟨_, rfl⟩
  have s4 := s3.fresh rh rh'
  rw [← h_q4, ← h_r4] at s4
  obtain ⟨v3, h_v3⟩ : ∃ x, x = ((r3).vals.length : Int) := ⟨_, rfl⟩
  have u_v3 : ((q3).vals.length : Int) = v3 := by rw [h_v3]; exact congrArg (fun n : Nat => (n : Int)) s3.len
  obtain ⟨q5, h_q5⟩ : ∃ x, x = freshM q4 a := ⟨_, rfl⟩
  obtain ⟨r5, h_r5⟩ : ∃ x, x = freshM r4 a' := ⟨_, rfl⟩
  have s5 := s4.fresh a a'
  rw [← h_q5, ← h_r5] at s5
  obtain ⟨v4, h_v4⟩ : ∃ x, x = ((r4).vals.length : Int) := ⟨_, rfl⟩
  have u_v4 : ((q4).vals.length : Int) = v4 := by rw [h_v4]; exact congrArg (fun n : Nat => (n : Int)) s4.len
  obtain ⟨q6, h_q6⟩ : ∃ x, x = (pthS p q5 []).1 := ⟨_, rfl⟩
  obtain ⟨r6, h_r6⟩ : ∃ x, x = (pthS p' r5 []).1 := ⟨_, rfl⟩
  have s6 := Shp.pth e s5
  obtain ⟨s6, w6⟩ := s6
  rw [← h_q6, ← h_r6] at s6
  obtain ⟨P, h_P⟩ : ∃ x, x = (pthS p' r5 []).2 := ⟨_, rfl⟩
  have u_P : (pthS p q5 []).2 = P := by rw [h_P]; exact w6
  obtain ⟨q7, h_q7⟩ : ∃ x, x = linM q6 [⟨0, 1⟩] := ⟨_, rfl⟩
  obtain ⟨r7, h_r7⟩ : ∃ x, x = linM r6 [⟨0, 1⟩] := ⟨_, rfl⟩
  have s7 := s6.lin [⟨0, 1⟩]
  rw [← h_q7, ← h_r7] at s7
  obtain ⟨k1, h_k1⟩ : ∃ x, x = ((r6).vals.length : Int) := ⟨_, rfl⟩
  have u_k1 : ((q6).vals.length : Int) = k1 := by rw [h_k1]; exact congrArg (fun n : Nat => (n : Int)) s6.len
  obtain ⟨q8, h_q8⟩ : ∃ x, x = twoM q7 v0 k1 := ⟨_, rfl⟩
  obtain ⟨r8, h_r8⟩ : ∃ x, x = twoM r7 v0 k1 := ⟨_, rfl⟩
  have s8 := s7.two v0 k1
  obtain ⟨s8, w8⟩ := s8
  rw [← h_q8, ← h_r8] at s8
  obtain ⟨hi, h_hi⟩ : ∃ x, x = twoR r7 v0 k1 := ⟨_, rfl⟩
  have u_hi : twoR q7 v0 k1 = hi := by rw [h_hi]; exact w8
  obtain ⟨q9, h_q9⟩ : ∃ x, x = linM q8 [⟨0, 2⟩] := ⟨_, rfl⟩
  obtain ⟨r9, h_r9⟩ : ∃ x, x = linM r8 [⟨0, 2⟩] := ⟨_, rfl⟩
  have s9 := s8.lin [⟨0, 2⟩]
  rw [← h_q9, ← h_r9] at s9
  obtain ⟨k2, h_k2⟩ : ∃ x, x = ((r8).vals.length : Int) := ⟨_, rfl⟩
  have u_k2 : ((q8).vals.length : Int) = k2 := by rw [h_k2]; exact congrArg (fun n : Nat => (n : Int)) s8.len
  obtain ⟨q10, h_q10⟩ : ∃ x, x = twoM q9 v0 k2 := ⟨_, rfl⟩
  obtain ⟨r10, h_r10⟩ : ∃ x, x = twoM r9 v0 k2 := ⟨_, rfl⟩
  have s10 := s9.two v0 k2
  obtain ⟨s10, w10⟩ := s10
  rw [← h_q10, ← h_r10] at s10
  obtain ⟨ow, h_ow⟩ : ∃ x, x = twoR r9 v0 k2 := ⟨_, rfl⟩
  have u_ow : twoR q9 v0 k2 = ow := by rw [h_ow]; exact w10
  obtain ⟨q11, h_q11⟩ : ∃ x, x = sameM q10 ow v2 := ⟨_, rfl⟩
  obtain ⟨r11, h_r11⟩ : ∃ x, x = sameM r10 ow v2 := ⟨_, rfl⟩
  have s11 := s10.same ow v2
  rw [← h_q11, ← h_r11] at s11
  obtain ⟨q12, h_q12⟩ : ∃ x, x = (manE q11 [v1, v2, v3]).1 := ⟨_, rfl⟩
  obtain ⟨r12, h_r12⟩ : ∃ x, x = (manE r11 [v1, v2, v3]).1 := ⟨_, rfl⟩
  have s12 := s11.many [v1, v2, v3]
  obtain ⟨s12, w12⟩ := s12
  rw [← h_q12, ← h_r12] at s12
  obtain ⟨h12, h_h12⟩ : ∃ x, x = (manE r11 [v1, v2, v3]).2 := ⟨_, rfl⟩
  have u_h12 : (manE q11 [v1, v2, v3]).2 = h12 := by rw [h_h12]; exact w12
  obtain ⟨q13, h_q13⟩ : ∃ x, x = bitM q12 v4 d := ⟨_, rfl⟩
  obtain ⟨r13, h_r13⟩ : ∃ x, x = bitM r12 v4 d := ⟨_, rfl⟩
  have s13 := s12.bit v4 d
  rw [← h_q13, ← h_r13] at s13
  obtain ⟨B, h_B⟩ : ∃ x, x = (bitE r12 v4 d).2.1 := ⟨_, rfl⟩
  have u_B : (bitE q12 v4 d).2.1 = B := by rw [h_B]; exact s12.bitx v4 d
  obtain ⟨q14, h_q14⟩ : ∃ x, x = (clmS B P q13 h12).1 := ⟨_, rfl⟩
  obtain ⟨r14, h_r14⟩ : ∃ x, x = (clmS B P r13 h12).1 := ⟨_, rfl⟩
  have s14 := Shp.clm B P h12 s13
  obtain ⟨s14, w14⟩ := s14
  rw [← h_q14, ← h_r14] at s14
  obtain ⟨h14, h_h14⟩ : ∃ x, x = (clmS B P r13 h12).2 := ⟨_, rfl⟩
  have u_h14 : (clmS B P q13 h12).2 = h14 := by rw [h_h14]; exact w14
  obtain ⟨q15, h_q15⟩ : ∃ x, x = linM q14 (sumS 0 288230376287764480 [h14, ro]) := ⟨_, rfl⟩
  obtain ⟨r15, h_r15⟩ : ∃ x, x = linM r14 (sumS 0 288230376287764480 [h14, ro]) := ⟨_, rfl⟩
  have s15 := s14.lin (sumS 0 288230376287764480 [h14, ro])
  rw [← h_q15, ← h_r15] at s15
  obtain ⟨k3, h_k3⟩ : ∃ x, x = ((r14).vals.length : Int) := ⟨_, rfl⟩
  have u_k3 : ((q14).vals.length : Int) = k3 := by rw [h_k3]; exact congrArg (fun n : Nat => (n : Int)) s14.len
  obtain ⟨q16, h_q16⟩ : ∃ x, x = mulM q15 v1 k3 := ⟨_, rfl⟩
  obtain ⟨r16, h_r16⟩ : ∃ x, x = mulM r15 v1 k3 := ⟨_, rfl⟩
  have s16 := s15.mul v1 k3
  rw [← h_q16, ← h_r16] at s16
  obtain ⟨off, h_off⟩ : ∃ x, x = ((r15).vals.length : Int) := ⟨_, rfl⟩
  have u_off : ((q15).vals.length : Int) = off := by rw [h_off]; exact congrArg (fun n : Nat => (n : Int)) s15.len
  obtain ⟨q17, h_q17⟩ : ∃ x, x = linM q16 [] := ⟨_, rfl⟩
  obtain ⟨r17, h_r17⟩ : ∃ x, x = linM r16 [] := ⟨_, rfl⟩
  have s17 := s16.lin []
  rw [← h_q17, ← h_r17] at s17
  obtain ⟨k4, h_k4⟩ : ∃ x, x = ((r16).vals.length : Int) := ⟨_, rfl⟩
  have u_k4 : ((q16).vals.length : Int) = k4 := by rw [h_k4]; exact congrArg (fun n : Nat => (n : Int)) s16.len
  obtain ⟨q18, h_q18⟩ : ∃ x, x = sameM q17 off k4 := ⟨_, rfl⟩
  obtain ⟨r18, h_r18⟩ : ∃ x, x = sameM r17 off k4 := ⟨_, rfl⟩
  have s18 := s17.same off k4
  rw [← h_q18, ← h_r18] at s18
  obtain ⟨q19, h_q19⟩ : ∃ x, x = (manE q18 [hi, v3, v4]).1 := ⟨_, rfl⟩
  obtain ⟨r19, h_r19⟩ : ∃ x, x = (manE r18 [hi, v3, v4]).1 := ⟨_, rfl⟩
  have s19 := s18.many [hi, v3, v4]
  obtain ⟨s19, w19⟩ := s19
  rw [← h_q19, ← h_r19] at s19
  obtain ⟨h19, h_h19⟩ : ∃ x, x = (manE r18 [hi, v3, v4]).2 := ⟨_, rfl⟩
  have u_h19 : (manE q18 [hi, v3, v4]).2 = h19 := by rw [h_h19]; exact w19
  obtain ⟨q20, h_q20⟩ : ∃ x, x = sameM q19 h19 en := ⟨_, rfl⟩
  obtain ⟨r20, h_r20⟩ : ∃ x, x = sameM r19 h19 en := ⟨_, rfl⟩
  have s20 := s19.same h19 en
  rw [← h_q20, ← h_r20] at s20
  obtain ⟨q21, h_q21⟩ : ∃ x, x = twoM q20 hi si := ⟨_, rfl⟩
  obtain ⟨r21, h_r21⟩ : ∃ x, x = twoM r20 hi si := ⟨_, rfl⟩
  have s21 := s20.two hi si
  obtain ⟨s21, w21⟩ := s21
  rw [← h_q21, ← h_r21] at s21
  obtain ⟨an1, h_an1⟩ : ∃ x, x = twoR r20 hi si := ⟨_, rfl⟩
  have u_an1 : twoR q20 hi si = an1 := by rw [h_an1]; exact w21
  obtain ⟨q22, h_q22⟩ : ∃ x, x = sameM q21 an1 an := ⟨_, rfl⟩
  obtain ⟨r22, h_r22⟩ : ∃ x, x = sameM r21 an1 an := ⟨_, rfl⟩
  have s22 := s21.same an1 an
  rw [← h_q22, ← h_r22] at s22
  have eL : inpM m k v o rh a p d ro si en an = q22 := by
    clear h_v0 h_v1 h_v2 h_v3 h_v4 h_P h_k1 h_hi h_k2 h_ow h_h12 h_B h_h14 h_k3 h_off h_k4 h_h19 h_an1
    subst h_q1 u_v0 h_q2 u_v1 h_q3 u_v2 h_q4 u_v3 h_q5 u_v4 h_q6 u_P h_q7 u_k1 h_q8 u_hi h_q9 u_k2 h_q10 u_ow h_q11 h_q12 u_h12 h_q13 u_B h_q14 u_h14 h_q15 u_k3 h_q16 u_off h_q17 u_k4 h_q18 h_q19 u_h19 h_q20 h_q21 u_an1 h_q22
    rfl
  have eR : inpM m' k' v' o' rh' a' p' d ro si en an = r22 := by
    clear u_v0 u_v1 u_v2 u_v3 u_v4 u_P u_k1 u_hi u_k2 u_ow u_h12 u_B u_h14 u_k3 u_off u_k4 u_h19 u_an1
    subst h_r1 h_v0 h_r2 h_v1 h_r3 h_v2 h_r4 h_v3 h_r5 h_v4 h_r6 h_P h_r7 h_k1 h_r8 h_hi h_r9 h_k2 h_r10 h_ow h_r11 h_r12 h_h12 h_r13 h_B h_r14 h_h14 h_r15 h_k3 h_r16 h_off h_r17 h_k4 h_r18 h_r19 h_h19 h_r20 h_r21 h_an1 h_r22
    rfl
  rw [eL, eR]
  exact s22
theorem Shp.out {m m' : Mk} (s : Shp m m') (n n' : Int × Int × Int) (e : Int) : Shp (outM m n e) (outM m' n' e) := by
  have s1 := s.fresh n.1 n'.1
  have s2 := s1.fresh n.2.1 n'.2.1
  have s3 := s2.fresh n.2.2 n'.2.2
  have s4 := s3.bit m'.vals.length 32
  have s5 := s4.many [(m'.vals.length : Int), (freshM m' n'.1).vals.length, (freshM (freshM m' n'.1) n'.2.1).vals.length]
  unfold outM
  dsimp only
  rw [s.len, s1.len, s2.len, s5.2]
  exact s5.1.same _ _
theorem pubK_shp {V V' : List Int} (h : V.length = V'.length) : Shp (pubK V) (pubK V') := ⟨by show ((V.length + 1 : Nat) : Int) = _; rw [h]; rfl, by show (V.length : Int) = _; rw [h]; rfl, rfl, by simp [pubK, h]⟩
theorem numsH_len (m : Mv) : (numsH m).length = 10 := rfl
/-! ### ten are public -/
end Go.Proofs.YtngphcdhdllnnaaGreat.E.M
end
