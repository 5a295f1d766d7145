/- Numbers modulo 2^130 - 5 by digits of 8 bits: what a round of folding does to a number's value. -/
import Derived.Test.YthajlelljnkdiaaCrd
import Derived.Test.YthajlelljnkdiaaProg
import Derived.KernelRfl
set_option linter.unusedVariables false
set_option linter.unusedSimpArgs false
set_option maxRecDepth 10000
open Go Go.Proofs.Ythajlelljnkdiaa.E Go.Proofs
namespace Go.Proofs.Ythajlelljnkdiaa.E.M
theorem qt_at : ∀ (L : List Int) (j : Nat), j < L.length → at_ (qt L) j = at_ L j / 4 + at_ L (j + 1) % 4 * 64
  | [a], 0, _ => by simp [qt, at_]
  | a :: b :: L, 0, _ => by simp [qt, at_]
  | a :: b :: L, j + 1, h => by
    have := qt_at (b :: L) j (by simpa using h)
    have e : ∀ (x : Int) (M : List Int) k, at_ (x :: M) (k + 1) = at_ M k := fun x M k => by simp [at_]
    rw [qt, e, e, e, this]
def fol : List Int → List Int → List Int
  | [], _ => []
  | a :: H, [] => 5 * a :: fol H []
  | a :: H, b :: M => (5 * a + b) :: fol H M
theorem fol_len : ∀ H M : List Int, (fol H M).length = H.length
  | [], M => by cases M <;> rfl
  | a :: H, [] => by simp [fol, fol_len H []]
  | a :: H, b :: M => by simp [fol, fol_len H M]
theorem fol_vl : ∀ H M : List Int, M.length ≤ H.length → vl (fol H M) = 5 * vl H + vl M
  | [], [], _ => by simp [fol, vl]
  | a :: H, [], _ => by simp only [fol, vl, fol_vl H [] (by simp)]; omega
  | a :: H, b :: M, h => by simp only [fol, vl, fol_vl H M (by simpa using h)]; omega
theorem fol_at : ∀ (H M : List Int) (j : Nat), j < H.length → at_ (fol H M) j = 5 * at_ H j + at_ M j
  | a :: H, [], 0, _ => by simp [fol, at_]
  | a :: H, b :: M, 0, _ => by simp [fol, at_]
  | a :: H, [], j + 1, h => by
    have := fol_at H [] j (by simpa using h)
    simpa [fol, at_] using this
  | a :: H, b :: M, j + 1, h => by
    have := fol_at H M j (by simpa using h)
    simpa [fol, at_] using this
theorem fill2 (D H : List Int) {j : Nat} (hD : D.length = H.length) (h : j < H.length) : (D.take j ++ H.drop j).set j (at_ D j) = D.take (j + 1) ++ H.drop (j + 1) := by
  have hj : j < D.length := by omega
  have l : (D.take j).length = j := by rw [List.length_take]; omega
  rw [List.set_append_right _ _ (by omega), l, Nat.sub_self, List.drop_eq_getElem_cons h, List.set_cons_zero, List.take_add_one, List.getElem?_eq_getElem hj, List.append_assoc]
  congr 1
  show _ = [_] ++ _
  unfold at_
  rw [List.getD_eq_getElem?_getD, List.getElem?_eq_getElem hj]
  rfl
theorem at_app {D H : List Int} {j : Nat} (hD : D.length = H.length) (h : j < H.length) : at_ (D.take j ++ H.drop j) j = at_ H j := by
  have l : (D.take j).length = j := by rw [List.length_take]; omega
  unfold at_
  rw [List.getD_eq_getElem?_getD, List.getD_eq_getElem?_getD, List.getElem?_append_right (by omega), l, Nat.sub_self, List.getElem?_drop]
  rfl
theorem at_set {L : List Int} {j : Nat} (v : Int) (h : j < L.length) : at_ (L.set j v) j = v := by
  unfold at_; rw [List.getD_eq_getElem?_getD, List.getElem?_set_self h]; rfl
def LOW (X : List Int) : List Int := (X.take 17).set 16 (at_ X 16 % 4)
def HI (X : List Int) : List Int := qt (X.drop 16)
theorem LOW_e {X : List Int} (h : X.length = 40) : LOW X = X.take 16 ++ [at_ X 16 % 4] := by
  have h16 : 16 < X.length := by omega
  have l : (X.take 16).length = 16 := by rw [List.length_take]; omega
  unfold LOW
  rw [List.take_add_one, List.getElem?_eq_getElem h16, List.set_append_right _ _ (by omega), l]
  rfl
theorem LOW_len {X : List Int} (h : X.length = 40) : (LOW X).length = 17 := by rw [LOW_e h, List.length_append, List.length_take]; simp; omega
theorem HI_len {X : List Int} (h : X.length = 40) : (HI X).length = 24 := by unfold HI; rw [qt_len, List.length_drop]; omega
theorem dig.drop {L : List Int} (h : dig L) (j : Nat) : dig (L.drop j) := fun v hv => h v (List.mem_of_mem_drop hv)
theorem LOW_dig {X : List Int} (h : X.length = 40) (hd : dig X) : dig (LOW X) := by
  rw [LOW_e h]
  intro v hv
  rcases List.mem_append.1 hv with hv | hv
  · exact hd.take 16 v hv
  · have := dig_at hd 16
    simp only [List.mem_singleton] at hv; subst hv; omega
theorem HI_dig {X : List Int} (hd : dig X) : dig (HI X) := qt_nn (hd.drop 16)
theorem LOW_16 {X : List Int} (h : X.length = 40) : at_ (LOW X) 16 = at_ X 16 % 4 := by
  unfold LOW; exact at_set _ (by rw [List.length_take]; omega)
theorem LH_vl {X : List Int} (h : X.length = 40) : vl X = vl (LOW X) + 1361129467683753853853498429727072845824 * vl (HI X) := by
  obtain ⟨a, ha, e⟩ := split130 h
  have h1 : at_ X 16 = a := by unfold at_; rw [List.getD_eq_getElem?_getD, ha]; rfl
  rw [LOW_e h, h1]
  unfold HI
  rw [e, p256_16]
  omega
theorem LOW_lt {X : List Int} (h : X.length = 40) (hd : dig X) : 0 ≤ vl (LOW X) ∧ vl (LOW X) < 1361129467683753853853498429727072845824 := by
  have hl := LOW_len h
  have hg := LOW_dig h hd
  have h1 := vl_take (L := LOW X) (j := 16) (by omega)
  rw [List.take_of_length_le (show (LOW X).length ≤ 16 + 1 by omega), LOW_16 h, p256_16] at h1
  have h2 := vl_tlt hg (j := 16) (by omega)
  rw [p256_16] at h2
  omega
/-- a round: what stands above is folded -/
theorem fold_vl {X : List Int} (h : X.length = 40) (hd : dig X) : vl (cr 40 0 (fol (HI X) (LOW X))) = 5 * vl (HI X) + vl (LOW X) := by
  have l1 := HI_len h
  have l2 := LOW_len h
  have e := LH_vl h
  have h0 := vl_nn (HI_dig hd).nn
  have h1 := LOW_lt h hd
  have h2 := vl_lt hd
  rw [h] at h2
  have f := fol_vl (HI X) (LOW X) (by omega)
  rw [cr_vl 40 0 _ (by omega) ?_ (by rw [fol_len]; omega) (by rw [f]; omega), f]
  · omega
  · intro v hv
    obtain ⟨j, hj, rfl⟩ := List.mem_iff_getElem.1 hv
    have hj' : j < (HI X).length := by rwa [fol_len] at hj
    have := fol_at (HI X) (LOW X) j hj'
    have a := (dig_at (HI_dig hd) j).1
    have b := (dig_at (LOW_dig h hd) j).1
    unfold at_ at this a b
    rw [List.getD_eq_getElem?_getD, List.getElem?_eq_getElem hj] at this
    simp only [Option.getD_some] at this
    omega
theorem fol_bd {X : List Int} (h : X.length = 40) (hd : dig X) : ∀ v ∈ fol (HI X) (LOW X), 0 ≤ v ∧ v ≤ 1099511627776 := by
  intro v hv
  obtain ⟨j, hj, rfl⟩ := List.mem_iff_getElem.1 hv
  have hj' : j < (HI X).length := by rwa [fol_len] at hj
  have := fol_at (HI X) (LOW X) j hj'
  have a := dig_at (HI_dig hd) j
  have b := dig_at (LOW_dig h hd) j
  unfold at_ at this a b
  rw [List.getD_eq_getElem?_getD, List.getElem?_eq_getElem hj] at this
  simp only [Option.getD_some] at this
  omega
theorem fold_mod {X : List Int} (h : X.length = 40) (hd : dig X) : vl (cr 40 0 (fol (HI X) (LOW X))) % P130 = vl X % P130 := by
  rw [fold_vl h hd, LH_vl h]
  show (_ : Int) % 1361129467683753853853498429727072845819 = _ % 1361129467683753853853498429727072845819
  omega
theorem fold_lt {X : List Int} (h : X.length = 40) (hd : dig X) (hp : 0 < vl (HI X)) : vl (cr 40 0 (fol (HI X) (LOW X))) < vl X := by
  rw [fold_vl h hd, LH_vl h]
  omega
/-- a number modulo 2^130 - 5, in 17 digits -/
def rstF (p : List Int) : List Int := cr 17 (vl p % P130) []
theorem rst_vl (p : List Int) : vl (rstF p) = vl p % P130 := by
  have h0 := Int.emod_nonneg (vl p) (show P130 ≠ 0 by decide)
  have h1 := Int.emod_lt_of_pos (vl p) (show 0 < P130 by decide)
  unfold rstF
  rw [cr_vl 17 _ [] h0 (fun v hv => by cases hv) (by simp) (by rw [p256_17]; simp only [vl]; have h1 : vl p % P130 < 1361129467683753853853498429727072845819 := h1; omega)]
  simp only [vl]; omega
theorem rst_len (p : List Int) : (rstF p).length = 17 := cr_len _ _ _
theorem rst_dig (p : List Int) : dig (rstF p) := cr_dig _ _ _
theorem rst_small {X p : List Int} (h : X.length = 40) (hd : dig X) (hz : vl (HI X) = 0) (hm : vl X % P130 = vl p % P130) (hs : vl (LOW X) < P130) : LOW X = rstF p := by
  refine dig_uniq (by rw [LOW_len h, rst_len]) (LOW_dig h hd) (rst_dig p) ?_
  rw [rst_vl, ← hm, LH_vl h, hz]
  have := LOW_lt h hd
  rw [Int.mul_zero, Int.add_zero]
  exact (Int.emod_eq_of_lt this.1 hs).symm
def TOP (L : List Int) : List Int := (cr 17 0 (L.set 0 (at_ L 0 + 5))).set 16 (at_ (cr 17 0 (L.set 0 (at_ L 0 + 5))) 16 % 4)
theorem rst_big {X p : List Int} (h : X.length = 40) (hd : dig X) (hz : vl (HI X) = 0) (hm : vl X % P130 = vl p % P130) (hs : ¬ vl (LOW X) < P130) : TOP (LOW X) = rstF p := by
  have l := LOW_len h
  have hl := LOW_lt h hd
  have hg := LOW_dig h hd
  have hs : ¬ vl (LOW X) < 1361129467683753853853498429727072845819 := hs
  have v1 := vl_set (L := LOW X) (k := 0) (at_ (LOW X) 0 + 5) (by omega)
  rw [p256_0] at v1
  have nn1 : nn ((LOW X).set 0 (at_ (LOW X) 0 + 5)) := by
    intro v hv
    rcases List.mem_or_eq_of_mem_set hv with hv | rfl
    · exact (hg v hv).1
    · have := dig_at hg 0; omega
  have v2 := cr_vl 17 0 _ (by omega) nn1 (by rw [List.length_set]; omega) (by rw [v1, p256_17]; omega)
  rw [v1] at v2
  have hc := cr_dig 17 0 ((LOW X).set 0 (at_ (LOW X) 0 + 5))
  have lc := cr_len 17 0 ((LOW X).set 0 (at_ (LOW X) 0 + 5))
  unfold TOP
  generalize cr 17 0 ((LOW X).set 0 (at_ (LOW X) 0 + 5)) = C at *
  have h1 := vl_take (L := C) (j := 16) (by omega)
  rw [List.take_of_length_le (show C.length ≤ 16 + 1 by omega), p256_16] at h1
  have h2 := vl_tlt hc (j := 16) (by omega)
  rw [p256_16] at h2
  have v3 := vl_set (L := C) (k := 16) (at_ C 16 % 4) (by omega)
  rw [p256_16] at v3
  refine dig_uniq (by rw [List.length_set, lc, rst_len]) ?_ (rst_dig p) ?_
  · intro v hv
    rcases List.mem_or_eq_of_mem_set hv with hv | rfl
    · exact hc v hv
    · have := dig_at hc 16; omega
  · have e := LH_vl h
    rw [rst_vl, ← hm]
    show _ = _ % (1361129467683753853853498429727072845819 : Int)
    rw [v3]
    omega
theorem any_pos {H : List Int} (hd : dig H) : (H.any fun v => decide (v > 0)) = false → vl H = 0 := by
  induction H with
  | nil => intro _; rfl
  | cons a H ih =>
    intro h
    simp only [List.any_cons, Bool.or_eq_false_iff, decide_eq_false_iff_not] at h
    have := ih (fun v hv => hd v (List.mem_cons_of_mem _ hv)) h.2
    have ha := hd a (by simp)
    simp only [vl, this]; omega
theorem pos_any {H : List Int} (hd : dig H) (h : (H.any fun v => decide (v > 0)) = true) : 0 < vl H := by
  obtain ⟨v, hv, h0⟩ := List.any_eq_true.1 h
  exact vl_pos hd.nn ⟨v, hv, by simpa using h0⟩
theorem any_snoc {H : List Int} {j : Nat} (h : j < H.length) : ((H.take (j + 1)).any fun v => decide (v > 0)) = (((H.take j).any fun v => decide (v > 0)) || decide (at_ H j > 0)) := by
  rw [List.take_add_one, List.getElem?_eq_getElem h, List.any_append]
  congr 1
  unfold at_
  rw [List.getD_eq_getElem?_getD, List.getElem?_eq_getElem h]
  simp
end Go.Proofs.Ythajlelljnkdiaa.E.M

