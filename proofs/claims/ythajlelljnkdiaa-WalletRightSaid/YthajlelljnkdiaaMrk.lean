/- The mark of bytes, by digits of 8 bits: what is reckoned, and how great it may be. -/
import Derived.Test.YthajlelljnkdiaaCrt
import Derived.Test.YthajlelljnkdiaaProg
import Derived.KernelRfl
set_option linter.unusedVariables false
set_option linter.unusedSimpArgs false
set_option maxRecDepth 10000
open Go Go.Proofs.Ythajlelljnkdiaa.E Go.Proofs
namespace Go.Proofs.Ythajlelljnkdiaa.E.M
theorem by8_atn {L : List Int} {k : Nat} (h : k < L.length) : (by8 L).drop k = .val (.int .u8 (at_ L k)) :: by8 (L.drop (k + 1)) := by
  unfold by8 at_
  rw [← List.map_drop, List.drop_eq_getElem_cons h, List.map_cons, List.getD_eq_getElem?_getD, List.getElem?_eq_getElem h]
  rfl
theorem at_sets (L : List Int) (n k : Nat) (v : Int) : at_ (L.set n v) k = if n = k ∧ k < L.length then v else at_ L k := by
  unfold at_
  rw [List.getD_eq_getElem?_getD, List.getD_eq_getElem?_getD]
  by_cases h : n = k
  · subst h
    by_cases h2 : n < L.length
    · rw [if_pos ⟨rfl, h2⟩, List.getElem?_set_self h2]; rfl
    · rw [if_neg (fun h => h2 h.2), List.getElem?_eq_none (by rw [List.length_set]; omega), List.getElem?_eq_none (by omega)]
  · rw [if_neg (fun h2 => h h2.1), List.getElem?_set_ne h]
def bnd_ (L : List Int) (b : Int) : Prop := ∀ k, 0 ≤ at_ L k ∧ at_ L k ≤ b
theorem bnd_.mem {L : List Int} {b : Int} (h : bnd_ L b) : ∀ v ∈ L, 0 ≤ v ∧ v ≤ b := by
  intro v hv
  obtain ⟨j, hj, rfl⟩ := List.mem_iff_getElem.1 hv
  have := h j
  unfold at_ at this
  rw [List.getD_eq_getElem?_getD, List.getElem?_eq_getElem hj] at this
  exact this
theorem dig.bnd {L : List Int} (h : dig L) : bnd_ L 255 := fun k => by have := dig_at h k; omega
theorem bnd_.mono {L : List Int} {b c : Int} (h : bnd_ L b) (hc : b ≤ c) : bnd_ L c := fun k => by have := h k; omega
theorem vl_le : ∀ {L : List Int} {b : Int}, 0 ≤ b → (∀ v ∈ L, 0 ≤ v ∧ v ≤ b) → vl L ≤ b * 256 ^ L.length - b
  | [], b, h0, _ => by simp [vl]
  | a :: L, b, h0, h => by
    have h1 := h a (by simp)
    have h2 := vl_le (L := L) h0 fun v hv => h v (List.mem_cons_of_mem _ hv)
    have h3 := p256_pos L.length
    have h4 : b * 1 ≤ b * 256 ^ L.length := Int.mul_le_mul_of_nonneg_left h3 h0
    simp only [vl, List.length_cons, Int.pow_succ]
    rw [← Int.mul_assoc]
    omega
/-- so many numbers are added, place by place -/
def addC (H C : List Int) : Nat → List Int
  | 0 => H
  | k + 1 => (addC H C k).set k (at_ (addC H C k) k + at_ C k)
theorem addC_len (H C : List Int) : ∀ k, (addC H C k).length = H.length
  | 0 => rfl
  | k + 1 => by rw [addC, List.length_set, addC_len H C k]
theorem addC_at (H C : List Int) : ∀ k j, at_ (addC H C k) j = at_ H j + if j < k ∧ j < H.length then at_ C j else 0
  | 0, j => by simp [addC]
  | k + 1, j => by
    rw [addC, at_sets, addC_len, addC_at H C k k, addC_at H C k j]
    by_cases h : k = j
    · subst h
      by_cases h2 : k < H.length
      · simp [h2]
      · simp [h2]
    · by_cases h2 : j < H.length
      · by_cases h3 : j < k
        · rw [if_neg (fun h4 => h h4.1), if_pos ⟨h3, h2⟩, if_pos ⟨by omega, h2⟩]
        · rw [if_neg (fun h4 => h h4.1), if_neg (fun h4 => h3 h4.1), if_neg (fun h4 => by have := h4.1; omega)]
      · simp [h2]
theorem addC_bnd {H C : List Int} {b : Int} (h : bnd_ H b) (hC : dig C) (k : Nat) : bnd_ (addC H C k) (b + 255) := fun j => by
  have h1 := h j
  have h2 := dig_at hC j
  rw [addC_at]
  split <;> omega
def mulR (h r : List Int) (n : Nat) : Nat → List Int → List Int
  | 0, p => p
  | j + 1, p => (mulR h r n j p).set (n + j) (at_ (mulR h r n j p) (n + j) + at_ h n * at_ r j)
theorem mulR_len (h r : List Int) (n : Nat) : ∀ j p, (mulR h r n j p).length = p.length
  | 0, _ => rfl
  | j + 1, p => by rw [mulR, List.length_set, mulR_len h r n j p]
theorem prod_bd {x y : Int} (h0 : 0 ≤ x) (h1 : x ≤ 511) (h2 : 0 ≤ y) (h3 : y ≤ 255) : 0 ≤ x * y ∧ x * y ≤ 131072 := by
  refine ⟨Int.mul_nonneg h0 h2, ?_⟩
  have a := Int.mul_le_mul_of_nonneg_left h3 h0
  omega
theorem mulR_bnd {h r : List Int} (hh : bnd_ h 511) (hr : bnd_ r 255) (n : Nat) : ∀ (j : Nat) {p : List Int} {b : Int}, bnd_ p b → bnd_ (mulR h r n j p) (b + j * 131072)
  | 0, p, b, hp => by intro k; have := hp k; simp only [mulR]; omega
  | j + 1, p, b, hp => by
    intro k
    have h1 := mulR_bnd hh hr n j hp
    have h2 := h1 (n + j)
    have h3 := h1 k
    have h4 := prod_bd (hh n).1 (hh n).2 (hr j).1 (hr j).2
    rw [mulR, at_sets]
    split <;> omega
def mulP (h r : List Int) : Nat → List Int
  | 0 => List.replicate 34 0
  | n + 1 => mulR h r n 16 (mulP h r n)
theorem mulP_len (h r : List Int) : ∀ n, (mulP h r n).length = 34
  | 0 => by simp [mulP]
  | n + 1 => by rw [mulP, mulR_len, mulP_len h r n]
theorem mulP_bnd {h r : List Int} (hh : bnd_ h 511) (hr : bnd_ r 255) : ∀ n : Nat, bnd_ (mulP h r n) (n * 2097152)
  | 0 => fun k => by rw [mulP, at_rep]; omega
  | n + 1 => fun k => by
    have := mulR_bnd hh hr n 16 (mulP_bnd hh hr n) k
    rw [mulP]; omega
theorem mulP_vl {h r : List Int} (hh : bnd_ h 511) (hr : bnd_ r 255) : vl (mulP h r 17) < 256 ^ 40 := by
  have h1 := vl_le (L := mulP h r 17) (b := ((17:Nat):Int) * 2097152) (by decide) (mulP_bnd hh hr 17).mem
  rw [mulP_len] at h1
  have h2 : ((17:Nat):Int) * 2097152 * 256 ^ 34 < 256 ^ 40 := by decide
  omega
def clN (k : Nat) (v : Int) : Int := if k % 4 = 3 then v % 16 else if k % 4 = 0 ∧ 0 < k then v / 4 * 4 else v
def clampF (K : List Int) : List Int := (List.range 16).map fun k => clN k (at_ K k)
theorem clampF_len (K : List Int) : (clampF K).length = 16 := by simp [clampF]
theorem clampF_at (K : List Int) {k : Nat} (h : k < 16) : at_ (clampF K) k = clN k (at_ K k) := by
  unfold clampF
  show ((List.range 16).map fun k => clN k (at_ K k)).getD k 0 = _
  rw [List.getD_eq_getElem?_getD, List.getElem?_map, List.getElem?_range h]
  rfl
theorem clN_dig {k : Nat} {v : Int} (h : 0 ≤ v ∧ v < 256) : 0 ≤ clN k v ∧ clN k v < 256 := by unfold clN; split; omega; split <;> omega
theorem clampF_dig {K : List Int} (h : dig K) : dig (clampF K) := by
  intro v hv
  obtain ⟨k, _, rfl⟩ := List.mem_map.1 hv
  exact clN_dig (dig_at h k)
def incC (H : List Int) (k : Nat) : List Int := H.set k (at_ H k + 1)
theorem incC_len (H : List Int) (k : Nat) : (incC H k).length = H.length := List.length_set
theorem incC_bnd {H : List Int} {b : Int} (h : bnd_ H b) (k : Nat) : bnd_ (incC H k) (b + 1) := fun j => by
  have h1 := h j
  have h2 := h k
  unfold incC
  rw [at_sets]
  split <;> omega
def chuF (H R C : List Int) : List Int := rstF (mulP (incC (addC H C (min 16 C.length)) (min 16 C.length)) R 17)
def mrkS (R B : List Int) : Nat → List Int
  | 0 => List.replicate 17 0
  | m + 1 => chuF (mrkS R B m) R (B.drop (16 * m))
theorem mrkS_len (R B : List Int) : ∀ m, (mrkS R B m).length = 17
  | 0 => by simp [mrkS]
  | m + 1 => by rw [mrkS]; exact rst_len _
theorem mrkS_dig (R B : List Int) : ∀ m, dig (mrkS R B m)
  | 0 => fun v hv => by rw [mrkS, List.mem_replicate] at hv; omega
  | m + 1 => by rw [mrkS]; exact rst_dig _
def mrkF (K B : List Int) : List Int := cr 16 0 (addC (mrkS (clampF K) B ((B.length + 15) / 16)) (K.drop 16) 16)
theorem mrkF_len (K B : List Int) : (mrkF K B).length = 16 := cr_len _ _ _
theorem mrkF_dig (K B : List Int) : dig (mrkF K B) := cr_dig _ _ _
theorem fill_at {D : List Int} {n j : Nat} (hD : D.length = n) (h : j < n) : at_ (D.take (j + 1) ++ List.replicate (n - (j + 1)) 0) j = at_ D j := by
  rw [← fill_set D hD h, at_set _ (by rw [List.length_append, List.length_take, List.length_replicate]; omega)]
theorem wrap8 {v : Int} (h : 0 ≤ v ∧ v < 256) : IntKind.u8.wrap v = v := by
  simp [IntKind.wrap, IntKind.bits, IntKind.signed]; omega
end Go.Proofs.Ythajlelljnkdiaa.E.M

