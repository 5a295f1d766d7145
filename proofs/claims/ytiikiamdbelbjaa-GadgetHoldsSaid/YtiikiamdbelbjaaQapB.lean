/- Whether values hold; a list's value, by the document; sums; lists that are the same; small systems: contracts over E. -/
import Derived.Test.YtiikiamdbelbjaaQapA
import Derived.Test.YtiikiamdbelbjaaProg
import Derived.KernelRfl
set_option linter.unusedVariables false
set_option linter.unusedSimpArgs false
set_option maxRecDepth 10000
open Go Go.Proofs.Ytiikiamdbelbjaa.E Go.Proofs
namespace Go.Proofs.Ytiikiamdbelbjaa.E.M
theorem valF_w {V : List Int} : ∀ (L : List Tm) {out : Int}, w64 out → w64 (valF V out L)
  | [], out, h => h
  | t :: l, out, h => by
    simp only [valF]
    split
    · exact valF_w l (w64_r _)
    · exact valF_w l h
theorem ends_nil {α : Type} {L r : List α} {k : Nat} (hr : L.drop k = r) (h : ¬ (k:Int) < L.length) : r = [] := by
  cases r with
  | nil => rfl
  | cons t r => have := (dconsq hr).1; omega
theorem ends_cons {α : Type} {L r : List α} {k : Nat} (hr : L.drop k = r) (hkl : k ≤ L.length) (h : (k:Int) < L.length) : ∃ t r', r = t :: r' := by
  cases r with
  | nil => have := dnilq hr hkl; omega
  | cons t r => exact ⟨t, r, rfl⟩
def dotF : Int → List Int → List Int → Int
  | out, a :: A, b :: B => dotF ((out + a * b % 288230376287764481) % 288230376287764481) A B
  | out, _, _ => out
theorem dotF_nil2 (out : Int) (A : List Int) : dotF out A [] = out := by cases A <;> rfl
theorem dotF_w : ∀ (A B : List Int) {out : Int}, w64 out → w64 (dotF out A B)
  | [], B, out, h => h
  | a :: A, [], out, h => h
  | a :: A, b :: B, out, h => dotF_w A B (w64_r _)
theorem and_lt {k a b : Nat} : (decide ((k:Int) < a) && decide ((k:Int) < b)) = true ↔ k < a ∧ k < b := by simp
def sameF (A B : List Int) : Bool := decide (A = B)
theorem len_ne {a b : Nat} : decide ((a:Int) ≠ b) = true ↔ a ≠ b := by simp; omega
def fewF (r : Rw) : Bool := decide (r.a.length ≤ 60) && decide (r.b.length ≤ 60) && decide (r.c.length ≤ 60)
def lightF (s : Rk) : Bool := if s.l.length > 200 then false else s.l.all fewF
theorem fewF_eq (r : Rw) : (decide ((r.a.length : Int) > 60) || decide ((r.b.length : Int) > 60) || decide ((r.c.length : Int) > 60)) = !fewF r := by
  have e : ∀ n : Nat, decide ((n:Int) > 60) = !decide (n ≤ 60) := by
    intro n
    rcases Nat.lt_or_ge 60 n with h | h
    · rw [decide_eq_true (by omega), decide_eq_false (by omega)]; rfl
    · rw [decide_eq_false (by omega), decide_eq_true (by omega)]; rfl
  rw [e, e, e]; simp [fewF]
def light14 (s : Rk) : Bool := lightF s && decide ((s.l.length:Int) ≤ 16) && (decide (s.v ≤ 60) || decide (s.v > 4096))
set_option maxHeartbeats 1000000 in
theorem rank_Holds_1_c {v : Int} : Fn Try.prog 37 [u v] [] (fun r h_ => r = bo (decide (v ≥ 288230376287764481))) := by
  refine Fn.enter Try.func37 Try.ntmps37 rfl (h := ?_)
  have tf := tfr
  have ot_ : (false || true) = true := rfl
  repeat refine AW.seq ?_
  refine AW.reg ?_
  iterate 1 refine AOL.s1 (h := ?_)
  refine AOL.nil ?_
  refine AW.kq [0] (h := ?_)
  repeat refine AW.seq ?_
  refine AW.reg ?_
  iterate 3 refine AOL.s1 (h := ?_)
  refine AOL.nil ?_
  refine AW.kq [2] (h := ?_)
  repeat refine AW.seq ?_
  refine AW.ret ?_
  refine ⟨_, [], rfl, HOk.nil _, ?_⟩
  rfl
def idxF (p : Int → Bool) : List Int → Nat → Int
  | [], _ => -1
  | v :: l, k => if p v then k else idxF p l (k + 1)
theorem idxF_any (p : Int → Bool) : ∀ (V : List Int) (k : Nat), decide (idxF p V k ≥ 0) = V.any p
  | [], k => by simp [idxF]
  | v :: l, k => by
    simp only [idxF, List.any_cons]
    split
    · rename_i h; rw [h]; simp
    · rename_i h; rw [idxF_any p l (k + 1)]; simp [h]
set_option maxHeartbeats 4000000 in
theorem slices_IndexFunc_uint64_uint64_c {V : List Int} {g : FuncId} {p : Int → Bool} (lV : V.length < 1000000000) (hV : wV V) (hcl : callable Try.prog g = true) (hg : ∀ v ∈ V, Fn Try.prog g [u v] [] (fun r _ => r = bo (p v))) : Fn Try.prog 48 [ul V, .clo g []] [] (fun r h_ => r = i (idxF p V 0)) := by
  refine Fn.enter Try.func48 Try.ntmps48 rfl (h := ?_)
  have tf := tfr
  have ot_ : (false || true) = true := rfl
  repeat refine AW.seq ?_
  refine AW.reg ?_
  iterate 1 refine AOL.s1 (h := ?_)
  refine AOL.nil ?_
  refine AW.kq [0, 1] (h := ?_)
  repeat refine AW.seq ?_
  refine AW.reg ?_
  iterate 3 refine AOL.s1 (h := ?_)
  refine AOL.nil ?_
  refine AW.kq [0, 1, 7, 8] (h := ?_)
  repeat refine AW.seq ?_
  refine AW.block ?_
  repeat refine AW.seq ?_
  refine AW.loopK [0, 1, 7, 8] (fun n s => ∃ (k : Nat), s = ⟨19, [(0, ul V), (1, .clo g []), (7, i V.length), (8, i k)], []⟩ ∧ k ≤ V.length ∧ n = V.length - k ∧ idxF p (V.drop k) k = idxF p V 0) (V.length) ?_ ?_
  · exact ⟨0, rfl, Nat.zero_le _, rfl, rfl⟩
  rintro n s ⟨k, rfl, hkl, rfl, hi⟩
  repeat refine AW.seq ?_
  refine AW.reg ?_
  iterate 1 refine AOL.s1 (h := ?_)
  refine AOL.nil ?_
  refine AW.kq [0, 1, 7, 8, 9] (h := ?_)
  repeat refine AW.seq ?_
  refine AW.cond rfl (fun d_ => ?_) (fun d_ => ?_)
  · have h1 : k < V.length := by have : (k:Int) < V.length := by simpa using d_
                                 omega
    obtain ⟨a, ha, haw, had⟩ := at_nat (n := k) (by omega) hV
    have k0 : (0:Int) ≤ k := by omega
    have k1 : (k:Int) < V.length := by omega
    have hw := incq h1 lV
    have cg := hg a (List.mem_of_getElem? ha)
    have hi : (if p a then (k:Int) else idxF p (V.drop (k + 1)) (k + 1)) = idxF p V 0 := by
      rw [← hi, List.drop_eq_getElem_cons h1]
      rw [List.getElem?_eq_getElem h1] at ha
      simp only [idxF, Option.some.inj ha]
    clear ha d_
    refine AW.skip ?_
    repeat refine AW.seq ?_
    refine AW.block ?_
    repeat refine AW.seq ?_
    refine AW.reg ?_
    iterate 2 refine AOL.s1 (h := ?_)
    refine AOL.nil ?_
    refine AW.kq [0, 1, 5, 7, 8] (h := ?_)
    repeat refine AW.seq ?_
    refine AW.reg ?_
    iterate 5 refine AOL.s1 (h := ?_)
    refine AOL.callD rfl cg hcl rfl rfl (h := ?_)
    refine AOL.nil ?_
    refine AW.kq [0, 1, 5, 7, 8, 16] (h := ?_)
    repeat refine AW.seq ?_
    refine AW.cond rfl (fun e_ => ?_) (fun e_ => ?_)
    · have hf : idxF p V 0 = k := by rw [← hi, if_pos e_]
      repeat refine AW.seq ?_
      refine AW.reg ?_
      iterate 2 refine AOL.s1 (h := ?_)
      refine AOL.nil ?_
      refine AW.kq [4] (h := ?_)
      repeat refine AW.seq ?_
      refine AW.ret ?_
      refine ⟨_, [], rfl, HOk.nil _, ?_⟩
      simp only [one?, hf]
    have hf : idxF p (V.drop (k + 1)) (k + 1) = idxF p V 0 := by rw [← hi, if_neg (by rw [e_]; decide)]
    refine AW.skip ?_
    repeat refine AW.seq ?_
    refine AW.reg ?_
    iterate 2 refine AOL.s1 (h := ?_)
    refine AOL.nil ?_
    exact ⟨V.length - (k + 1), by omega, _, rfl, h1, rfl, hf⟩
  · have hf : idxF p V 0 = -1 := by
      have : k = V.length := by have : ¬ (k:Int) < V.length := by simpa using d_
                                omega
      subst this
      rw [List.drop_length] at hi
      exact hi.symm
    repeat refine AW.seq ?_
    refine AW.exit ?_
    repeat (first | refine Kseq.ex ?_ | refine Kloop.ex ?_ | refine Kblock.miss (by decide) ?_)
    refine Kblock.hit ?_
    refine AW.kq [] (h := ?_)
    repeat refine AW.seq ?_
    refine AW.reg ?_
    iterate 1 refine AOL.s1 (h := ?_)
    refine AOL.nil ?_
    refine AW.kq [4] (h := ?_)
    repeat refine AW.seq ?_
    refine AW.ret ?_
    refine ⟨_, [], rfl, HOk.nil _, ?_⟩
    simp only [one?, hf]
set_option maxHeartbeats 1000000 in
theorem slices_ContainsFunc_uint64_uint64_c {V : List Int} {g : FuncId} {p : Int → Bool} (lV : V.length < 1000000000) (hV : wV V) (hcl : callable Try.prog g = true) (hg : ∀ v ∈ V, Fn Try.prog g [u v] [] (fun r _ => r = bo (p v))) : Fn Try.prog 36 [ul V, .clo g []] [] (fun r h_ => r = bo (V.any p)) := by
  refine Fn.enter Try.func36 Try.ntmps36 rfl (h := ?_)
  have tf := tfr
  have ot_ : (false || true) = true := rfl
  repeat refine AW.seq ?_
  refine AW.reg ?_
  iterate 1 refine AOL.s1 (h := ?_)
  refine AOL.nil ?_
  refine AW.kq [0, 1] (h := ?_)
  repeat refine AW.seq ?_
  refine AW.reg ?_
  iterate 2 refine AOL.s1 (h := ?_)
  refine AOL.callD rfl (slices_IndexFunc_uint64_uint64_c lV hV hcl hg) (by kernel_rfl) rfl rfl (h := ?_)
  iterate 2 refine AOL.s1 (h := ?_)
  refine AOL.nil ?_
  refine AW.kq [4] (h := ?_)
  repeat refine AW.seq ?_
  refine AW.ret ?_
  refine ⟨_, [], rfl, HOk.nil _, ?_⟩
  simp only [one?, idxF_any]
end Go.Proofs.Ytiikiamdbelbjaa.E.M

