/- A list's value is its sum's; a list is the same as itself (out of Gpl and Gai). -/
import Derived.Test.YtjeafkodcmbabaaDoorQapC
import Derived.Test.YtjeafkodcmbabaaDoorSma
import Derived.Test.YtjeafkodcmbabaaDoorProg
import Derived.KernelRfl
set_option linter.unusedVariables false
set_option linter.unusedSimpArgs false
set_option maxRecDepth 10000
open Go Go.Proofs.YtjeafkodcmbabaaDoor.E Go.Proofs
namespace Go.Proofs.YtjeafkodcmbabaaDoor.E.M
abbrev RZ : Int := 288230376287764481
def gV (V : List Int) (v : Int) : Int := if 0 ≤ v ∧ v < (V.length : Int) then V[v.toNat]?.getD 0 else 0
def lin (V : List Int) : List Tm → Int
  | [] => 0
  | t :: l => t.k * gV V t.v + lin V l
theorem valF_lin (V : List Int) : ∀ (L : List Tm) {o : Int}, 0 ≤ o → o < 288230376287764481 → valF V o L = (o + lin V L) % 288230376287764481
  | [], o, h0, h1 => by simp only [valF, lin]; omega
  | t :: l, o, h0, h1 => by
    simp only [valF, lin, gV]
    split
    · rename_i h
      rw [valF_lin V l (Int.emod_nonneg _ (by decide)) (Int.emod_lt_of_pos _ (by decide))]
      generalize t.k * (V[t.v.toNat]?.getD 0) = x
      omega
    · rename_i h
      rw [valF_lin V l h0 h1, Int.mul_zero, Int.zero_add]
def sumN : Nat → (Nat → Int) → Int
  | 0, _ => 0
  | n + 1, f => sumN n f + f n
theorem sumN_add (f g : Nat → Int) : ∀ n, sumN n (fun v => f v + g v) = sumN n f + sumN n g
  | 0 => rfl
  | n + 1 => by simp only [sumN, sumN_add f g n]; omega
theorem sumN_zero : ∀ {n : Nat} {f : Nat → Int}, (∀ v, v < n → f v = 0) → sumN n f = 0
  | 0, _, _ => rfl
  | n + 1, f, h => by simp only [sumN]; rw [sumN_zero fun v hv => h v (by omega), h n (by omega)]; rfl
theorem sumN_congr : ∀ {n : Nat} {f g : Nat → Int}, (∀ v, v < n → f v = g v) → sumN n f = sumN n g
  | 0, _, _, _ => rfl
  | n + 1, f, g, h => by simp only [sumN]; rw [sumN_congr fun v hv => h v (by omega), h n (by omega)]
theorem sumN_mod : ∀ {n : Nat} {f g : Nat → Int}, (∀ v, v < n → f v % 288230376287764481 = g v % 288230376287764481) → sumN n f % 288230376287764481 = sumN n g % 288230376287764481
  | 0, _, _, _ => rfl
  | n + 1, f, g, h => by
    simp only [sumN]
    have h1 := sumN_mod (n := n) fun v hv => h v (by omega)
    have h2 := h n (by omega)
    omega
theorem sumN_one (w : Int) (x : Int) : ∀ {n : Nat}, sumN n (fun v => (if w = (v : Int) then x else 0)) = if 0 ≤ w ∧ w < n then x else 0
  | 0 => by simp only [sumN]; rw [if_neg (by omega)]
  | n + 1 => by
    simp only [sumN, sumN_one w x (n := n)]
    by_cases h : w = n
    · rw [if_pos h, if_neg (by omega), if_pos (by omega)]; omega
    · rw [if_neg h]
      by_cases h2 : 0 ≤ w ∧ w < (n : Int)
      · rw [if_pos h2, if_pos (by omega)]; omega
      · rw [if_neg h2, if_neg (by omega)]; rfl
theorem lin_kS (V : List Int) : ∀ L : List Tm, lin V L = sumN V.length (fun v => kS (v : Int) L * gV V v)
  | [] => by
    rw [sumN_zero]
    · rfl
    · intro v _; simp only [kS, Int.zero_mul]
  | t :: l => by
    have e : (fun v : Nat => kS (v : Int) (t :: l) * gV V v) = fun v : Nat => (if t.v = (v : Int) then t.k * gV V t.v else 0) + kS (v : Int) l * gV V v := by
      funext v
      simp only [kS, Int.add_mul]
      split
      · rename_i h; rw [h]
      · rw [Int.zero_mul]
    rw [e, sumN_add, sumN_one, lin, ← lin_kS V l]
    congr 1
    unfold gV
    split <;> simp
theorem lin_sum (V : List Int) {L out : List Tm} (h : IsSum L out) : lin V out % 288230376287764481 = lin V L % 288230376287764481 := by
  rw [lin_kS, lin_kS]
  refine sumN_mod fun v hv => ?_
  rw [h.eq v (by omega), Int.mul_emod, Int.emod_emod, ← Int.mul_emod]
theorem val_lin (V : List Int) (L : List Tm) : valF V 0 L = lin V L % 288230376287764481 := by
  rw [valF_lin V L (by decide) (by decide), Int.zero_add]
theorem val_sum (V : List Int) (L : List Tm) : valF V 0 (sumT L) = valF V 0 L := by rw [val_lin, val_lin, lin_sum V (sumT_is L)]
theorem eqTm : eqT Tryd.prog 41 = some [.int, .int] := eqT_of (by kernel_rfl) (by kernel_rfl) (by kernel_rfl)
set_option maxHeartbeats 1000000 in
theorem obolref11_Same_c {L : List Tm} (hL : L.length < 1000000000) : Fn Tryd.prog 12 [slF tm L, slF tm L] [] (fun r h_ => r = bo true) := by
  refine Fn.enter Tryd.func12 Tryd.ntmps12 rfl (h := ?_)
  have tf := tfr
  have ot_ : (false || true) = true := rfl
  have eq := eqTm
  repeat refine AW.seq ?_
  refine AW.reg ?_
  iterate 1 refine AOL.s1 (h := ?_)
  refine AOL.nil ?_
  refine AW.kq [0, 1] (h := ?_)
  repeat refine AW.seq ?_
  refine AW.reg ?_
  iterate 5 refine AOL.s1 (h := ?_)
  refine AOL.nil ?_
  refine AW.kq [0, 1, 10] (h := ?_)
  repeat refine AW.seq ?_
  refine AW.cond rfl (fun c_ => ?_) (fun c_ => ?_)
  · simp at c_
  refine AW.skip ?_
  repeat refine AW.seq ?_
  refine AW.reg ?_
  iterate 1 refine AOL.s1 (h := ?_)
  refine AOL.nil ?_
  refine AW.kq [0, 1, 5] (h := ?_)
  repeat refine AW.seq ?_
  refine AW.block ?_
  repeat refine AW.seq ?_
  refine AW.loopK [0, 1, 5] (fun n s => ∃ (k : Nat), s = ⟨26, [(0, slF tm L), (1, slF tm L), (5, i k)], []⟩ ∧ k ≤ L.length ∧ n = L.length - k) (L.length) ?_ ?_
  · exact ⟨0, rfl, Nat.zero_le _, rfl⟩
  rintro n s ⟨k, rfl, hkl, rfl⟩
  repeat refine AW.seq ?_
  refine AW.reg ?_
  iterate 4 refine AOL.s1 (h := ?_)
  refine AOL.nil ?_
  refine AW.kq [0, 1, 5, 14] (h := ?_)
  repeat refine AW.seq ?_
  refine AW.cond rfl (fun c_ => ?_) (fun c_ => ?_)
  · have h1 : k < L.length := by simpa using c_
    have k0 : (0:Int) ≤ k := by omega
    have k1 : (k:Int) < L.length := by omega
    have hw := incq h1 hL
    have hd : (fm tm L).drop (k * 2) = i L[k].v :: u L[k].k :: fm tm (L.drop (k + 1)) := fm_at tm_len h1
    clear c_
    generalize L[k] = t at *
    obtain ⟨tv, tk⟩ := t
    refine AW.skip ?_
    repeat refine AW.seq ?_
    refine AW.block ?_
    repeat refine AW.seq ?_
    refine AW.drw 8 [] (by kernel_rfl) (h := ?_)
    iterate 8 refine ADL.dm 1 (h := ?_)
    refine ADL.done hmix rfl rfl (hT := ?_)
    iterate 1 refine AOL.s1 (h := ?_)
    refine AOL.nil ?_
    refine AW.kq [0, 1, 5, 25] (h := ?_)
    repeat refine AW.seq ?_
    refine AW.cond rfl (fun d_ => ?_) (fun d_ => ?_)
    · cases d_
    refine AW.skip ?_
    repeat refine AW.seq ?_
    refine AW.reg ?_
    iterate 3 refine AOL.s1 (h := ?_)
    refine AOL.nil ?_
    exact ⟨L.length - (k + 1), by omega, k + 1, rfl, h1, rfl⟩
  · skip
    repeat refine AW.seq ?_
    refine AW.exit ?_
    repeat (first | refine Kseq.ex ?_ | refine Kloop.ex ?_ | refine Kblock.miss (by decide) ?_)
    refine Kblock.hit ?_
    refine AW.kq [] (h := ?_)
    repeat refine AW.seq ?_
    refine AW.reg ?_
    iterate 1 refine AOL.s1 (h := ?_)
    refine AOL.nil ?_
    refine AW.kq [4] (h := ?_)
    repeat refine AW.seq ?_
    refine AW.ret ?_
    refine ⟨_, [], rfl, HOk.nil _, ?_⟩
    rfl
end Go.Proofs.YtjeafkodcmbabaaDoor.E.M

