/- At the places of a domain the sums are the rows' values: plain numbers. -/
import Derived.Test.YtgcgkpeffjbneaaQapM
import Derived.Test.YtgcgkpeffjbneaaProg
import Derived.KernelRfl
set_option linter.unusedVariables false
set_option linter.unusedSimpArgs false
set_option maxRecDepth 10000
open Go Go.Proofs.Ytgcgkpeffjbneaa.E Go.Proofs
namespace Go.Proofs.Ytgcgkpeffjbneaa.E.M
abbrev rV (L : List Int) : Prop := ∀ v ∈ L, 0 ≤ v ∧ v < 288230376287764481
theorem pw_eq (w : Int) : ∀ j, pw w j = w ^ j % 288230376287764481
  | 0 => by show (1:Int) = w ^ 0 % _; rw [Int.pow_zero]; decide
  | j + 1 => by
    show pw w j * w % 288230376287764481 = _
    rw [pw_eq w j, Int.pow_succ, Int.mul_emod, Int.emod_emod_of_dvd _ (Int.dvd_refl _), ← Int.mul_emod]
theorem root_pow {k : Nat} (hk : k ≤ 12) (d : Nat) : rootF k ^ d % 288230376287764481 = 3 ^ (288230376287764480 / 2 ^ k * d) % 288230376287764481 := by
  have e : rootF k = 3 ^ (288230376287764480 / 2 ^ k) % 288230376287764481 := by
    unfold rootF
    rw [ipow_eq (by decide) (by decide) (w64_root hk)]
    have : (288230376287764480 / 2 ^ k : Int) = ((288230376287764480 / 2 ^ k : Nat) : Int) := by rw [Int.natCast_ediv, Int.natCast_pow]; rfl
    rw [this, Int.toNat_natCast]
  rw [e, pow_emod, ← Int.pow_mul]
theorem two_dvd {k : Nat} (hk : k ≤ 12) : 288230376287764480 / 2 ^ k * 2 ^ k = 288230376287764480 := by
  have : k = 0 ∨ k = 1 ∨ k = 2 ∨ k = 3 ∨ k = 4 ∨ k = 5 ∨ k = 6 ∨ k = 7 ∨ k = 8 ∨ k = 9 ∨ k = 10 ∨ k = 11 ∨ k = 12 := by omega
  rcases this with rfl | rfl | rfl | rfl | rfl | rfl | rfl | rfl | rfl | rfl | rfl | rfl | rfl <;> decide
theorem two_half {k : Nat} (hk : k + 1 ≤ 12) : 288230376287764480 / 2 ^ (k + 1) * 2 ^ k = 144115188143882240 := by
  have : k = 0 ∨ k = 1 ∨ k = 2 ∨ k = 3 ∨ k = 4 ∨ k = 5 ∨ k = 6 ∨ k = 7 ∨ k = 8 ∨ k = 9 ∨ k = 10 ∨ k = 11 := by omega
  rcases this with rfl | rfl | rfl | rfl | rfl | rfl | rfl | rfl | rfl | rfl | rfl | rfl <;> decide
theorem root_one {k : Nat} (hk : k ≤ 12) : rootF k ^ (2 ^ k) % 288230376287764481 = 1 := by
  rw [root_pow hk, two_dvd hk]
  have := ipow_eq (m := 288230376287764481) (a := 3) (e := 288230376287764480) (by decide) (by decide) (by decide)
  rw [show (288230376287764480 : Int).toNat = 288230376287764480 from rfl] at this
  rw [← this]
  decide +kernel
theorem root_half {k : Nat} (hk : k + 1 ≤ 12) : rootF (k + 1) ^ (2 ^ k) % 288230376287764481 ≠ 1 := by
  rw [root_pow hk, two_half hk]
  have := ipow_eq (m := 288230376287764481) (a := 3) (e := 144115188143882240) (by decide) (by decide) (by decide)
  rw [show (144115188143882240 : Int).toNat = 144115188143882240 from rfl] at this
  rw [← this]
  decide +kernel
theorem z_zero {k : Nat} (hk : k ≤ 12) (j : Nat) : zF k (pw (rootF k) j) = 0 := by
  obtain ⟨t1, t2⟩ := two_le hk
  unfold zF
  rw [ipow_eq (by decide) (pw_w _ j).1 (by omega), Int.toNat_natCast, pw_eq, pow_emod, ← Int.pow_mul, Nat.mul_comm j, Int.pow_mul]
  have h := root_one hk
  have : (rootF k ^ 2 ^ k) ^ j % 288230376287764481 = 1 := by
    rw [← pow_emod, h]
    rw [Int.one_pow]; decide
  rw [this]; decide
theorem dvd2 : ∀ (m a : Nat), a ∣ 2 ^ (m + 1) → a ≠ 2 ^ (m + 1) → a ∣ 2 ^ m
  | 0, a, h, hne => by
    have h2 : a ≤ 2 := Nat.le_of_dvd (by decide) (by simpa using h)
    have h0 : a ≠ 0 := by rintro rfl; simp at h
    have h1 : a ≠ 2 := by simpa using hne
    have : a = 1 := by omega
    rw [this]; exact Nat.one_dvd _
  | m + 1, a, h, hne => by
    rcases Nat.mod_two_eq_zero_or_one a with ha | ha
    · obtain ⟨b, rfl⟩ : ∃ b, a = 2 * b := ⟨a / 2, by omega⟩
      have hb : b ∣ 2 ^ (m + 1) := by
        rw [Nat.pow_succ, Nat.mul_comm (2 ^ (m + 1))] at h
        exact Nat.dvd_of_mul_dvd_mul_left (by decide) h
      have hbn : b ≠ 2 ^ (m + 1) := by
        rintro rfl; apply hne; rw [Nat.pow_succ 2 (m + 1)]; omega
      have := dvd2 m b hb hbn
      rw [Nat.pow_succ, Nat.mul_comm (2 ^ m)]
      exact Nat.mul_dvd_mul_left 2 this
    · have hc : Nat.Coprime a 2 := by
        unfold Nat.Coprime
        rw [Nat.gcd_comm, Nat.gcd_rec, ha]; rfl
      rw [Nat.pow_succ] at h
      exact hc.dvd_of_dvd_mul_right h
theorem ipow_gcd (g d : Int) (hd : 1 < d) (a b : Nat) : g ^ a % d = 1 → g ^ b % d = 1 → g ^ (Nat.gcd a b) % d = 1 := by
  induction a, b using Nat.gcd.induction with
  | H0 n => intro _ h; simpa using h
  | H1 m n hm ih =>
    intro h1 h2
    rw [Nat.gcd_rec]
    refine ih ?_ h1
    have e : n = m * (n / m) + n % m := (Nat.div_add_mod n m).symm
    have h3 : (g ^ m) ^ (n / m) % d = 1 := by
      rw [← pow_emod, h1, Int.one_pow]; exact Int.emod_eq_of_lt (by decide) hd
    have : g ^ n % d = (g ^ (n % m)) % d := by
      conv => lhs; rw [e, Int.pow_add, Int.pow_mul, Int.mul_emod, h3, Int.one_mul, Int.emod_emod_of_dvd _ (Int.dvd_refl _)]
    rw [← this]; exact h2
theorem root_ne {k d : Nat} (hk : k ≤ 12) (h0 : 0 < d) (h1 : d < 2 ^ k) : rootF k ^ d % 288230376287764481 ≠ 1 := by
  intro h
  cases k with
  | zero => simp at h1; omega
  | succ k =>
  have hg := ipow_gcd (rootF (k + 1)) 288230376287764481 (by decide) d (2 ^ (k + 1)) h (root_one hk)
  have hd : Nat.gcd d (2 ^ (k + 1)) ∣ 2 ^ k := by
    refine dvd2 k _ (Nat.gcd_dvd_right _ _) ?_
    have := Nat.le_of_dvd h0 (Nat.gcd_dvd_left d (2 ^ (k + 1)))
    omega
  obtain ⟨c, hc⟩ := hd
  apply root_half hk
  rw [hc, Int.pow_mul, ← pow_emod, hg, Int.one_pow]
  decide
theorem pw_inj {k i_ j : Nat} (hk : k ≤ 12) (hj : j < 2 ^ k) (hij : i_ < j) : pw (rootF k) i_ ≠ pw (rootF k) j := by
  intro h
  rw [pw_eq, pw_eq] at h
  apply root_ne hk (d := j - i_) (by omega) (by omega)
  have h1 : rootF k ^ (i_ + (2 ^ k - i_)) % 288230376287764481 = rootF k ^ (j + (2 ^ k - i_)) % 288230376287764481 := by
    rw [Int.pow_add, Int.mul_emod, h, ← Int.mul_emod, ← Int.pow_add]
  rw [show i_ + (2 ^ k - i_) = 2 ^ k by omega, show j + (2 ^ k - i_) = 2 ^ k + (j - i_) by omega, root_one hk, Int.pow_add, Int.mul_emod, root_one hk, Int.one_mul, Int.emod_emod_of_dvd _ (Int.dvd_refl _)] at h1
  exact h1.symm
theorem pw_r (w : Int) (j : Nat) : 0 ≤ pw w j ∧ pw w j < 288230376287764481 := by
  rw [pw_eq]; exact ⟨Int.emod_nonneg _ (by decide), Int.emod_lt_of_pos _ (by decide)⟩
theorem lag_unit {k j : Nat} (hk : k ≤ 12) (hj : j < 2 ^ k) : lagF k (pw (rootF k) j) = (List.range (2 ^ k)).map fun l => if l = j then 1 else 0 := by
  unfold lagF
  refine List.map_congr_left fun l hl => ?_
  have hl : l < 2 ^ k := List.mem_range.1 hl
  have hb : byF k (pw (rootF k) j) = 0 := by unfold byF; rw [z_zero hk]; simp
  rw [hb]
  unfold lagI
  have h1 := pw_r (rootF k) j
  have h2 := pw_r (rootF k) l
  by_cases e : l = j
  · subst e; simp
  · rw [if_neg e, if_neg]
    · simp
    · intro h
      have : pw (rootF k) j = pw (rootF k) l := by omega
      rcases Nat.lt_or_gt_of_ne e with h' | h'
      · exact pw_inj hk hj h' this.symm
      · exact pw_inj hk hl h' this
theorem addF_zero : ∀ (l : List Tm) {L : List Int}, rV L → addF 0 L l = L
  | [], L, _ => rfl
  | t :: l, L, h => by
    have e : L.set t.v.toNat ((L[t.v.toNat]?.getD 0 + t.k * 0 % 288230376287764481) % 288230376287764481) = L := by
      cases hv : L[t.v.toNat]? with
      | none =>
        rw [List.set_eq_of_length_le]
        exact List.getElem?_eq_none_iff.1 hv
      | some v =>
        have hr := h v (List.mem_of_getElem? hv)
        simp only [Option.getD_some, Int.mul_zero, Int.zero_emod, Int.add_zero]
        rw [Int.emod_eq_of_lt hr.1 hr.2]
        have hlt := (List.getElem?_eq_some_iff.1 hv).1
        have hgv : L[t.v.toNat] = v := by rw [List.getElem?_eq_getElem hlt] at hv; exact Option.some.inj hv
        rw [← hgv, List.set_getElem_self]
    simp only [addF]
    rw [e]
    exact addF_zero l h
theorem set_r {L : List Int} (h : rV L) (j : Nat) (v : Int) : rV (L.set j (v % 288230376287764481)) := by
  intro a ha
  rcases List.mem_or_eq_of_mem_set ha with h' | rfl
  · exact h a h'
  · exact ⟨Int.emod_nonneg _ (by decide), Int.emod_lt_of_pos _ (by decide)⟩
theorem addF_r (b : Int) : ∀ (l : List Tm) {L : List Int}, rV L → rV (addF b L l)
  | [], L, h => h
  | t :: l, L, h => addF_r b l (set_r h _ _)
theorem atF_unit (sel : Rw → List Tm) (N j : Nat) (hj : j < N) : ∀ (l : List Rw) (p : Nat) {L : List Int}, rV L → p + l.length ≤ N →
    atF sel ((List.range N).map fun l => if l = j then (1:Int) else 0) p l L = if p ≤ j ∧ j < p + l.length then addF 1 L (sel (l[j - p]?.getD default)) else L
  | [], p, L, h, _ => by
    rw [if_neg (by simp only [List.length_nil]; omega)]; rfl
  | r :: l, p, L, h, hN => by
    simp only [List.length_cons] at hN ⊢
    simp only [atF]
    have hg : ((List.range N).map fun l => if l = j then (1:Int) else 0)[p]?.getD 0 = if p = j then 1 else 0 := by
      simp [show p < N by omega]
    rw [hg]
    by_cases e : p = j
    · subst e
      rw [if_pos rfl, atF_unit sel N p hj l (p + 1) (addF_r _ _ h) (by omega), if_neg (by omega), if_pos (by omega), Nat.sub_self]
      rfl
    · rw [if_neg e, addF_zero _ h, atF_unit sel N j hj l (p + 1) h (by omega)]
      by_cases c : p ≤ j ∧ j < p + (l.length + 1)
      · rw [if_pos c, if_pos (by omega)]
        obtain ⟨q, hq⟩ : ∃ q, j - p = q + 1 := ⟨j - p - 1, by omega⟩
        rw [hq, show j - (p + 1) = q by omega]
        rfl
      · rw [if_neg c, if_neg (by omega)]
/-- a sum of products, not reduced -/
def sumP : List Int → List Int → Int
  | a :: A, b :: B => a * b + sumP A B
  | _, _ => 0
theorem sumP_nil2 (A : List Int) : sumP A [] = 0 := by cases A <;> rfl
theorem dotF_sum : ∀ (A B : List Int) (out : Int), dotF out A B % 288230376287764481 = (out + sumP A B) % 288230376287764481
  | [], B, out => by simp [dotF, sumP]
  | a :: A, [], out => by simp [dotF, sumP]
  | a :: A, b :: B, out => by
    simp only [dotF, sumP]
    rw [dotF_sum A B, Int.emod_add_emod]
    generalize a * b = x
    generalize sumP A B = y
    omega
theorem dotF_r : ∀ (A B : List Int) {out : Int}, 0 ≤ out ∧ out < 288230376287764481 → 0 ≤ dotF out A B ∧ dotF out A B < 288230376287764481
  | [], B, out, h => h
  | a :: A, [], out, h => h
  | a :: A, b :: B, out, h => dotF_r A B ⟨Int.emod_nonneg _ (by decide), Int.emod_lt_of_pos _ (by decide)⟩
theorem valF_r (V : List Int) : ∀ (l : List Tm) {out : Int}, 0 ≤ out ∧ out < 288230376287764481 → 0 ≤ valF V out l ∧ valF V out l < 288230376287764481
  | [], out, h => h
  | t :: l, out, h => by
    simp only [valF]
    refine valF_r V l ?_
    split
    · exact ⟨Int.emod_nonneg _ (by decide), Int.emod_lt_of_pos _ (by decide)⟩
    · exact h
def sumT (V : List Int) : List Tm → Int
  | [] => 0
  | t :: l => t.k * (V[t.v.toNat]?.getD 0) + sumT V l
theorem valF_sum (V : List Int) : ∀ (l : List Tm) (out : Int), inT V.length l → valF V out l % 288230376287764481 = (out + sumT V l) % 288230376287764481
  | [], out, _ => by simp [valF, sumT]
  | t :: l, out, h => by
    have ht := h t (by simp)
    simp only [valF, sumT]
    rw [if_pos ⟨ht.1, ht.2.1⟩, valF_sum V l _ fun x hx => h x (by simp [hx])]
    rw [Int.emod_add_emod]
    generalize t.k * V[t.v.toNat]?.getD 0 = x
    generalize sumT V l = y
    omega
theorem sumP_set : ∀ (A B : List Int) (j : Nat) (v : Int), A.length = B.length → j < A.length → sumP (A.set j v) B = sumP A B + (v - A[j]?.getD 0) * (B[j]?.getD 0)
  | [], B, j, v, _, hj => by simp at hj
  | a :: A, [], j, v, hl, _ => by simp at hl
  | a :: A, b :: B, 0, v, hl, hj => by
    simp only [List.set_cons_zero, sumP, List.getElem?_cons_zero, Option.getD_some, Int.sub_mul]; omega
  | a :: A, b :: B, j + 1, v, hl, hj => by
    simp only [List.set_cons_succ, sumP, List.getElem?_cons_succ]
    rw [sumP_set A B j v (by simpa using hl) (by simpa using hj)]
    omega
theorem addF_sum (V : List Int) : ∀ (l : List Tm) (L : List Int), L.length = V.length → inT V.length l → sumP (addF 1 L l) V % 288230376287764481 = (sumP L V + sumT V l) % 288230376287764481
  | [], L, _, _ => by simp [addF, sumT]
  | t :: l, L, hl, h => by
    have ht := h t (by simp)
    simp only [addF, sumT]
    rw [addF_sum V l _ (by rw [List.length_set, hl]) fun x hx => h x (by simp [hx])]
    rw [sumP_set _ _ _ _ hl (by omega)]
    generalize L[t.v.toNat]?.getD 0 = x
    generalize V[t.v.toNat]?.getD 0 = y
    generalize sumP L V = P
    generalize sumT V l = T
    rw [Int.mul_one]
    have hz : (x + t.k % 288230376287764481) % 288230376287764481 = x + t.k - 288230376287764481 * ((x + t.k) / 288230376287764481) := by
      rw [Int.add_emod_emod, Int.emod_def]
    rw [hz]
    generalize (x + t.k) / 288230376287764481 = q
    have : P + (x + t.k - 288230376287764481 * q - x) * y + T = P + (t.k * y + T) + 288230376287764481 * (- (q * y)) := by
      rw [show x + t.k - 288230376287764481 * q - x = t.k - 288230376287764481 * q by omega, Int.sub_mul, Int.mul_neg, Int.mul_assoc]; omega
    rw [this, Int.add_mul_emod_self_left]
theorem sumP_zero : ∀ (n : Nat) (V : List Int), sumP (List.replicate n 0) V = 0
  | 0, V => rfl
  | n + 1, [] => rfl
  | n + 1, v :: V => by rw [List.replicate_succ]; simp only [sumP]; rw [sumP_zero n V]; simp
theorem rep_r (n : Nat) : rV (List.replicate n 0) := by intro v hv; rw [List.eq_of_mem_replicate hv]; decide
/-- at a place of the domain -/
theorem at_place (sel : Rw → List Tm) {s : Rk} {V : List Int} {j : Nat} (hc : chkF s = true) (hV : (V.length : Int) = s.v) (hj : j < s.l.length) (hs : ∀ r ∈ s.l, inT V.length (sel r)) :
    dotF 0 (atL sel s (pw (rootF (lg s.l.length)) j)) V = valF V 0 (sel (s.l[j]?.getD default)) := by
  obtain ⟨k12, kN⟩ := lg_le (chk_len hc)
  unfold atL
  rw [lag_unit k12 (by omega), atF_unit sel _ j (by omega) s.l 0 (rep_r _) (by omega), if_pos (by omega), Nat.sub_zero]
  have hr : inT V.length (sel (s.l[j]?.getD default)) := by
    rw [List.getElem?_eq_getElem hj]
    exact hs _ (List.getElem_mem hj)
  have hl : (List.replicate s.v.toNat (0:Int)).length = V.length := by rw [List.length_replicate, ← hV]; rfl
  have h1 := dotF_sum (addF 1 (List.replicate s.v.toNat 0) (sel (s.l[j]?.getD default))) V 0
  have h2 := valF_sum V (sel (s.l[j]?.getD default)) 0 hr
  have h3 := addF_sum V (sel (s.l[j]?.getD default)) _ hl hr
  rw [sumP_zero, Int.zero_add] at h3
  rw [Int.zero_add] at h1 h2
  have h4 := dotF_r (addF 1 (List.replicate s.v.toNat 0) (sel (s.l[j]?.getD default))) V (out := 0) (by decide)
  have h5 := valF_r V (sel (s.l[j]?.getD default)) (out := 0) (by decide)
  rw [Int.emod_eq_of_lt h4.1 h4.2] at h1
  rw [Int.emod_eq_of_lt h5.1 h5.2] at h2
  rw [h1, h2, h3]

end Go.Proofs.Ytgcgkpeffjbneaa.E.M

