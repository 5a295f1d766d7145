/- What is in a list: contracts over E. -/
import Derived.Test.YtdbpjegocmdplaaGroB
import Derived.Test.YtdbpjegocmdplaaProg
import Derived.KernelRfl
set_option linter.unusedVariables false
set_option linter.unusedSimpArgs false
set_option maxRecDepth 10000
open Go Go.Proofs.Ytdbpjegocmdplaa.E Go.Proofs
namespace Go.Proofs.Ytdbpjegocmdplaa.E.M
def idxG (p : P3 → Bool) : List P3 → Nat → Int
  | [], _ => -1
  | v :: l, k => if p v then k else idxG p l (k + 1)
theorem idxG_any (p : P3 → Bool) : ∀ (V : List P3) (k : Nat), decide (idxG p V k ≥ 0) = V.any p
  | [], k => by simp [idxG]
  | v :: l, k => by
    simp only [idxG, List.any_cons]
    split
    · rename_i h; rw [h]; simp
    · rename_i h; rw [idxG_any p l (k + 1)]; simp [h]
set_option maxHeartbeats 4000000 in
theorem slices_IndexFunc_api_Pt_api_Pt_c {V : List P3} {g : FuncId} {p : P3 → Bool} (lV : V.length < 1000000000) (hV : ∀ v ∈ V, wP3 v) (hcl : callable Try.prog g = true) (hg : ∀ v, wP3 v → Fn Try.prog g [pt v] [] (fun r _ => r = bo (p v))) : Fn Try.prog 71 [pl V, .clo g []] [] (fun r h_ => r = i (idxG p V 0)) := by
  refine Fn.enter Try.func71 Try.ntmps71 rfl (h := ?_)
  have tf := tf
  have ot_ : (false || true) = true := rfl
  have tfl := tfl
  repeat refine AW.seq ?_
  refine AW.reg ?_
  iterate 1 refine AOL.s1 (h := ?_)
  refine AOL.nil ?_
  refine AW.kq [0, 1] (h := ?_)
  repeat refine AW.seq ?_
  refine AW.reg ?_
  iterate 3 refine AOL.s1 (h := ?_)
  refine AOL.nil ?_
  refine AW.kq [0, 1, 7, 8] (h := ?_)
  repeat refine AW.seq ?_
  refine AW.block ?_
  repeat refine AW.seq ?_
  refine AW.loopK [0, 1, 7, 8] (fun n s => ∃ (k : Nat), s = ⟨19, [(0, pl V), (1, .clo g []), (7, i V.length), (8, i k)], []⟩ ∧ k ≤ V.length ∧ n = V.length - k ∧ idxG p (V.drop k) k = idxG p V 0) (V.length) ?_ ?_
  · exact ⟨0, rfl, Nat.zero_le _, rfl, rfl⟩
  rintro n s ⟨k, rfl, hkl, rfl, hi⟩
  repeat refine AW.seq ?_
  refine AW.reg ?_
  iterate 1 refine AOL.s1 (h := ?_)
  refine AOL.nil ?_
  refine AW.kq [0, 1, 7, 8, 9] (h := ?_)
  repeat refine AW.seq ?_
  refine AW.cond rfl (fun d_ => ?_) (fun d_ => ?_)
  · have h1 : k < V.length := by have : (k:Int) < V.length := by simpa using d_
                                 omega
    have hg' : V[k]? = some V[k] := List.getElem?_eq_getElem h1
    have hgw := hV _ (List.getElem_mem h1)
    have hgd := pl_at hg'
    have k0 : (0:Int) ≤ k := by omega
    have k1 : (k:Int) < V.length := by omega
    have hw := incq h1 lV
    have cg := hg _ hgw
    have hi : (if p V[k] then (k:Int) else idxG p (V.drop (k + 1)) (k + 1)) = idxG p V 0 := by
      rw [← hi, List.drop_eq_getElem_cons h1]
      simp only [idxG]
    clear hg' d_
    generalize V[k] = a at *
    obtain ⟨a0, a1, a2⟩ := a
    refine AW.skip ?_
    repeat refine AW.seq ?_
    refine AW.block ?_
    repeat refine AW.seq ?_
    refine AW.reg ?_
    iterate 2 refine AOL.s1 (h := ?_)
    refine AOL.nil ?_
    refine AW.kq [0, 1, 5, 7, 8] (h := ?_)
    repeat refine AW.seq ?_
    refine AW.reg ?_
    iterate 5 refine AOL.s1 (h := ?_)
    refine AOL.callD rfl cg hcl rfl rfl (h := ?_)
    refine AOL.nil ?_
    refine AW.kq [0, 1, 5, 7, 8, 16] (h := ?_)
    repeat refine AW.seq ?_
    refine AW.cond rfl (fun e_ => ?_) (fun e_ => ?_)
    · have hf : idxG p V 0 = k := by rw [← hi, if_pos e_]
      repeat refine AW.seq ?_
      refine AW.reg ?_
      iterate 2 refine AOL.s1 (h := ?_)
      refine AOL.nil ?_
      refine AW.kq [4] (h := ?_)
      repeat refine AW.seq ?_
      refine AW.ret ?_
      refine ⟨_, [], rfl, HOk.nil _, ?_⟩
      simp only [one?, hf]
    have hf : idxG p (V.drop (k + 1)) (k + 1) = idxG p V 0 := by rw [← hi, if_neg (by rw [e_]; decide)]
    refine AW.skip ?_
    repeat refine AW.seq ?_
    refine AW.reg ?_
    iterate 2 refine AOL.s1 (h := ?_)
    refine AOL.nil ?_
    exact ⟨V.length - (k + 1), by omega, _, rfl, h1, rfl, hf⟩
  · have hf : idxG p V 0 = -1 := by
      have : k = V.length := by have : ¬ (k:Int) < V.length := by simpa using d_
                                omega
      subst this
      rw [List.drop_length] at hi
      exact hi.symm
    repeat refine AW.seq ?_
    refine AW.exit ?_
    repeat (first | refine Kseq.ex ?_ | refine Kloop.ex ?_ | refine Kblock.miss (by decide) ?_)
    refine Kblock.hit ?_
    refine AW.kq [] (h := ?_)
    repeat refine AW.seq ?_
    refine AW.reg ?_
    iterate 1 refine AOL.s1 (h := ?_)
    refine AOL.nil ?_
    refine AW.kq [4] (h := ?_)
    repeat refine AW.seq ?_
    refine AW.ret ?_
    refine ⟨_, [], rfl, HOk.nil _, ?_⟩
    simp only [one?, hf]
set_option maxHeartbeats 1000000 in
theorem slices_ContainsFunc_api_Pt_api_Pt_c {V : List P3} {g : FuncId} {p : P3 → Bool} (lV : V.length < 1000000000) (hV : ∀ v ∈ V, wP3 v) (hcl : callable Try.prog g = true) (hg : ∀ v, wP3 v → Fn Try.prog g [pt v] [] (fun r _ => r = bo (p v))) : Fn Try.prog 36 [pl V, .clo g []] [] (fun r h_ => r = bo (V.any p)) := by
  refine Fn.enter Try.func36 Try.ntmps36 rfl (h := ?_)
  have tf := tf
  have ot_ : (false || true) = true := rfl
  repeat refine AW.seq ?_
  refine AW.reg ?_
  iterate 1 refine AOL.s1 (h := ?_)
  refine AOL.nil ?_
  refine AW.kq [0, 1] (h := ?_)
  repeat refine AW.seq ?_
  refine AW.reg ?_
  iterate 2 refine AOL.s1 (h := ?_)
  refine AOL.callD rfl (slices_IndexFunc_api_Pt_api_Pt_c lV hV hcl hg) (by kernel_rfl) rfl rfl (h := ?_)
  iterate 2 refine AOL.s1 (h := ?_)
  refine AOL.nil ?_
  refine AW.kq [4] (h := ?_)
  repeat refine AW.seq ?_
  refine AW.ret ?_
  refine ⟨_, [], rfl, HOk.nil _, ?_⟩
  simp only [one?, idxG_any]
set_option maxHeartbeats 4000000 in
theorem slices_Index_uint64_uint64_c {V : List Int} {x : Int} (lV : V.length < 1000000000) (hV : wV V) (hx : w64 x) : Fn Try.prog 53 [ul V, u x] [] (fun r h_ => r = i (idxF (fun v => x == v) V 0)) := by
  refine Fn.enter Try.func53 Try.ntmps53 rfl (h := ?_)
  have tf := tf
  have ot_ : (false || true) = true := rfl
  have tfr := tfr
  have tfl := tfl
  repeat refine AW.seq ?_
  refine AW.reg ?_
  iterate 1 refine AOL.s1 (h := ?_)
  refine AOL.nil ?_
  refine AW.kq [0, 1] (h := ?_)
  repeat refine AW.seq ?_
  refine AW.reg ?_
  iterate 3 refine AOL.s1 (h := ?_)
  refine AOL.nil ?_
  refine AW.kq [0, 1, 7, 8] (h := ?_)
  repeat refine AW.seq ?_
  refine AW.block ?_
  repeat refine AW.seq ?_
  refine AW.loopK [0, 1, 7, 8] (fun n s => ∃ (k : Nat), s = ⟨19, [(0, ul V), (1, u x), (7, i V.length), (8, i k)], []⟩ ∧ k ≤ V.length ∧ n = V.length - k ∧ idxF (fun v => x == v) (V.drop k) k = idxF (fun v => x == v) V 0) (V.length) ?_ ?_
  · exact ⟨0, rfl, Nat.zero_le _, rfl, rfl⟩
  rintro n s ⟨k, rfl, hkl, rfl, hi⟩
  repeat refine AW.seq ?_
  refine AW.reg ?_
  iterate 1 refine AOL.s1 (h := ?_)
  refine AOL.nil ?_
  refine AW.kq [0, 1, 7, 8, 9] (h := ?_)
  repeat refine AW.seq ?_
  refine AW.cond rfl (fun d_ => ?_) (fun d_ => ?_)
  · have h1 : k < V.length := by have : (k:Int) < V.length := by simpa using d_
                                 omega
    obtain ⟨a, ha, haw, had⟩ := at_nat (n := k) (by omega) hV
    have k0 : (0:Int) ≤ k := by omega
    have k1 : (k:Int) < V.length := by omega
    have hw := incq h1 lV
    have hi : (if x == a then (k:Int) else idxF (fun v => x == v) (V.drop (k + 1)) (k + 1)) = idxF (fun v => x == v) V 0 := by
      rw [← hi, List.drop_eq_getElem_cons h1]
      rw [List.getElem?_eq_getElem h1] at ha
      simp only [idxF, Option.some.inj ha]
    clear ha d_
    refine AW.skip ?_
    repeat refine AW.seq ?_
    refine AW.block ?_
    repeat refine AW.seq ?_
    refine AW.reg ?_
    iterate 2 refine AOL.s1 (h := ?_)
    refine AOL.nil ?_
    refine AW.kq [0, 1, 5, 7, 8] (h := ?_)
    repeat refine AW.seq ?_
    refine AW.reg ?_
    iterate 6 refine AOL.s1 (h := ?_)
    refine AOL.nil ?_
    refine AW.kq [0, 1, 5, 7, 8, 16] (h := ?_)
    repeat refine AW.seq ?_
    refine AW.cond rfl (fun e_ => ?_) (fun e_ => ?_)
    · have e_ : (x == a) = true := by simpa using e_
      have hf : idxF (fun v => x == v) V 0 = k := by rw [← hi, if_pos e_]
      repeat refine AW.seq ?_
      refine AW.reg ?_
      iterate 2 refine AOL.s1 (h := ?_)
      refine AOL.nil ?_
      refine AW.kq [4] (h := ?_)
      repeat refine AW.seq ?_
      refine AW.ret ?_
      refine ⟨_, [], rfl, HOk.nil _, ?_⟩
      simp only [one?, hf]
    have e_ : (x == a) = false := by simpa using e_
    have hf : idxF (fun v => x == v) (V.drop (k + 1)) (k + 1) = idxF (fun v => x == v) V 0 := by rw [← hi, if_neg (by rw [e_]; decide)]
    refine AW.skip ?_
    repeat refine AW.seq ?_
    refine AW.reg ?_
    iterate 2 refine AOL.s1 (h := ?_)
    refine AOL.nil ?_
    exact ⟨V.length - (k + 1), by omega, _, rfl, h1, rfl, hf⟩
  · have hf : idxF (fun v => x == v) V 0 = -1 := by
      have : k = V.length := by have : ¬ (k:Int) < V.length := by simpa using d_
                                omega
      subst this
      rw [List.drop_length] at hi
      exact hi.symm
    repeat refine AW.seq ?_
    refine AW.exit ?_
    repeat (first | refine Kseq.ex ?_ | refine Kloop.ex ?_ | refine Kblock.miss (by decide) ?_)
    refine Kblock.hit ?_
    refine AW.kq [] (h := ?_)
    repeat refine AW.seq ?_
    refine AW.reg ?_
    iterate 1 refine AOL.s1 (h := ?_)
    refine AOL.nil ?_
    refine AW.kq [4] (h := ?_)
    repeat refine AW.seq ?_
    refine AW.ret ?_
    refine ⟨_, [], rfl, HOk.nil _, ?_⟩
    simp only [one?, hf]
set_option maxHeartbeats 1000000 in
theorem slices_Contains_uint64_uint64_c {V : List Int} {x : Int} (lV : V.length < 1000000000) (hV : wV V) (hx : w64 x) : Fn Try.prog 25 [ul V, u x] [] (fun r h_ => r = bo (V.any (fun v => x == v))) := by
  refine Fn.enter Try.func25 Try.ntmps25 rfl (h := ?_)
  have tf := tf
  have ot_ : (false || true) = true := rfl
  repeat refine AW.seq ?_
  refine AW.reg ?_
  iterate 1 refine AOL.s1 (h := ?_)
  refine AOL.nil ?_
  refine AW.kq [0, 1] (h := ?_)
  repeat refine AW.seq ?_
  refine AW.reg ?_
  iterate 2 refine AOL.s1 (h := ?_)
  refine AOL.callD rfl (slices_Index_uint64_uint64_c lV hV hx) (by kernel_rfl) rfl rfl (h := ?_)
  iterate 2 refine AOL.s1 (h := ?_)
  refine AOL.nil ?_
  refine AW.kq [4] (h := ?_)
  repeat refine AW.seq ?_
  refine AW.ret ?_
  refine ⟨_, [], rfl, HOk.nil _, ?_⟩
  simp only [one?, idxF_any]
end Go.Proofs.Ytdbpjegocmdplaa.E.M

