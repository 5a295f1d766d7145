/- Whether values hold; a list's value, by the document; sums; lists that are the same; small systems: contracts over E. -/
import Derived.Test.YtjeafkodcmbabaaDoorQapA
import Derived.Test.YtjeafkodcmbabaaDoorProg
import Derived.KernelRfl
set_option linter.unusedVariables false
set_option linter.unusedSimpArgs false
set_option maxRecDepth 10000
open Go Go.Proofs.YtjeafkodcmbabaaDoor.E Go.Proofs
namespace Go.Proofs.YtjeafkodcmbabaaDoor.E.M
theorem valF_w {V : List Int} : ∀ (L : List Tm) {out : Int}, w64 out → w64 (valF V out L)
  | [], out, h => h
  | t :: l, out, h => by
    simp only [valF]
    split
    · exact valF_w l (w64_r _)
    · exact valF_w l h
theorem ends_nil {α : Type} {L r : List α} {k : Nat} (hr : L.drop k = r) (h : ¬ (k:Int) < L.length) : r = [] := by
  cases r with
  | nil => rfl
  | cons t r => have := (dconsq hr).1; omega
theorem ends_cons {α : Type} {L r : List α} {k : Nat} (hr : L.drop k = r) (hkl : k ≤ L.length) (h : (k:Int) < L.length) : ∃ t r', r = t :: r' := by
  cases r with
  | nil => have := dnilq hr hkl; omega
  | cons t r => exact ⟨t, r, rfl⟩
set_option maxHeartbeats 4000000 in
theorem obolref11_Value_c {L : List Tm} {V : List Int} (hL : L.length < 1000000000) (hV : wV V) (hT : wT L) : Fn Tryd.prog 11 [slF tm L, ul V] [] (fun r h_ => r = u (valF V 0 L)) := by
  refine Fn.enter Tryd.func11 Tryd.ntmps11 rfl (h := ?_)
  have tf := tfr
  have ot_ : (false || true) = true := rfl
  repeat refine AW.seq ?_
  refine AW.reg ?_
  iterate 1 refine AOL.s1 (h := ?_)
  refine AOL.nil ?_
  refine AW.kq [0, 1] (h := ?_)
  repeat refine AW.seq ?_
  refine AW.reg ?_
  iterate 1 refine AOL.s1 (h := ?_)
  refine AOL.nil ?_
  refine AW.kq [0, 1, 5] (h := ?_)
  repeat refine AW.seq ?_
  refine AW.reg ?_
  iterate 1 refine AOL.s1 (h := ?_)
  refine AOL.nil ?_
  refine AW.kq [0, 1, 5, 6] (h := ?_)
  repeat refine AW.seq ?_
  refine AW.block ?_
  repeat refine AW.seq ?_
  refine AW.loopK [0, 1, 5, 6] (fun n s => ∃ (k : Nat) (out : Int) (r : List Tm), s = ⟨46, [(0, slF tm L), (1, ul V), (5, u out), (6, i k)], []⟩ ∧ L.drop k = r ∧ k ≤ L.length ∧ n = r.length ∧ w64 out ∧ valF V out r = valF V 0 L) (L.length) ?_ ?_
  · exact ⟨0, 0, L, rfl, rfl, Nat.zero_le _, rfl, by decide, rfl⟩
  rintro n s ⟨k, out, r, rfl, hr, hkl, rfl, ho, hi⟩
  repeat refine AW.seq ?_
  refine AW.reg ?_
  iterate 4 refine AOL.s1 (h := ?_)
  refine AOL.nil ?_
  refine AW.kq [0, 1, 5, 6, 10] (h := ?_)
  repeat refine AW.seq ?_
  refine AW.cond rfl (fun c_ => ?_) (fun c_ => ?_)
  · obtain ⟨t, r, rfl⟩ := ends_cons hr hkl (by simpa using c_)
    obtain ⟨hlt, hr', ht⟩ := dconsq hr
    have hd : (fm tm L).drop (k * 2) = i t.v :: u t.k :: fm tm r := fm_drop tm_len hr
    have k0 : (0:Int) ≤ k := by omega
    have k1 : (k:Int) < L.length := by omega
    have hw := incq hlt hL
    have htk := hT t (List.mem_of_getElem? ht)
    obtain ⟨tv, tk_⟩ := t
    simp only at hd htk
    clear hr ht
    refine AW.skip ?_
    repeat refine AW.seq ?_
    refine AW.block ?_
    repeat refine AW.seq ?_
    refine AW.reg ?_
    iterate 7 refine AOL.s1 (h := ?_)
    refine AOL.kq [0, 1, 5, 6, 19] (h := ?_)
    refine AOL.and 19 28 (os' := ?_) (x := ?_) (h1 := ?_) (h0 := ?_) (h := ?_)
    rotate_left 2
    iterate 2
      · intro hb_ K' hK; (iterate 9 refine AOL.s1 (h := ?_)); refine AOL.kq [0, 1, 5, 6, 28] (h := ?_); exact hK
    refine AOL.nil ?_
    refine AW.kq [0, 1, 5, 6, 28] (h := ?_)
    repeat refine AW.seq ?_
    refine AW.cond rfl (fun d_ => ?_) (fun d_ => ?_)
    · have ⟨h0, h1⟩ : 0 ≤ tv ∧ tv < V.length := by simpa using d_
      obtain ⟨m, rfl⟩ := Int.eq_ofNat_of_zero_le h0
      obtain ⟨v, hv, hvw, hvd⟩ := at_nat h1 hV
      have hn : valF V ((out + tk_ * v % 288230376287764481) % 288230376287764481) r = valF V 0 L := by
        rw [← hi]; simp only [valF, h0, h1, and_self, if_true, Int.toNat_natCast, hv, Option.getD_some]
      clear hi hv d_
      repeat refine AW.seq ?_
      refine AW.drw 15 [] (by kernel_rfl) (h := ?_)
      iterate 14 refine ADL.dm 1 (h := ?_)
      refine ADL.call rfl (obolref07_Mul_c htk hvw) (by kernel_rfl) rfl rfl (h := ?_)
      refine ADL.done hmix rfl rfl (hT := ?_)
      refine AOL.callD rfl (obolref07_Plus_c ho (w64_r _)) (by kernel_rfl) rfl rfl (h := ?_)
      iterate 1 refine AOL.s1 (h := ?_)
      refine AOL.nil ?_
      repeat refine AW.seq ?_
      refine AW.reg ?_
      iterate 3 refine AOL.s1 (h := ?_)
      refine AOL.nil ?_
      exact ⟨r.length, by simp, _, _, r, rfl, hr', hlt, rfl, w64_r _, hn⟩
    · have hn : valF V out r = valF V 0 L := by
        rw [← hi]; simp only [valF]; rw [if_neg (by simpa using d_)]
      clear hi
      refine AW.skip ?_
      repeat refine AW.seq ?_
      refine AW.reg ?_
      iterate 3 refine AOL.s1 (h := ?_)
      refine AOL.nil ?_
      exact ⟨r.length, by simp, _, _, r, rfl, hr', hlt, rfl, ho, hn⟩
  · obtain rfl := ends_nil hr (by simpa using c_)
    have hg : out = valF V 0 L := hi
    clear hi hr
    repeat refine AW.seq ?_
    refine AW.exit ?_
    repeat (first | refine Kseq.ex ?_ | refine Kloop.ex ?_ | refine Kblock.miss (by decide) ?_)
    refine Kblock.hit ?_
    refine AW.kq [5] (h := ?_)
    repeat refine AW.seq ?_
    refine AW.reg ?_
    iterate 2 refine AOL.s1 (h := ?_)
    refine AOL.nil ?_
    refine AW.kq [4] (h := ?_)
    repeat refine AW.seq ?_
    refine AW.ret ?_
    refine ⟨_, [], rfl, HOk.nil _, ?_⟩
    simp only [one?, hg]
def dotF : Int → List Int → List Int → Int
  | out, a :: A, b :: B => dotF ((out + a * b % 288230376287764481) % 288230376287764481) A B
  | out, _, _ => out
theorem dotF_nil2 (out : Int) (A : List Int) : dotF out A [] = out := by cases A <;> rfl
theorem dotF_w : ∀ (A B : List Int) {out : Int}, w64 out → w64 (dotF out A B)
  | [], B, out, h => h
  | a :: A, [], out, h => h
  | a :: A, b :: B, out, h => dotF_w A B (w64_r _)
theorem and_lt {k a b : Nat} : (decide ((k:Int) < a) && decide ((k:Int) < b)) = true ↔ k < a ∧ k < b := by simp
def sameF (A B : List Int) : Bool := decide (A = B)
theorem len_ne {a b : Nat} : decide ((a:Int) ≠ b) = true ↔ a ≠ b := by simp; omega
def fewF (r : Rw) : Bool := decide (r.a.length ≤ 60) && decide (r.b.length ≤ 60) && decide (r.c.length ≤ 60)
def lightF (s : Rk) : Bool := if s.l.length > 200 then false else s.l.all fewF
theorem fewF_eq (r : Rw) : (decide ((r.a.length : Int) > 60) || decide ((r.b.length : Int) > 60) || decide ((r.c.length : Int) > 60)) = !fewF r := by
  have e : ∀ n : Nat, decide ((n:Int) > 60) = !decide (n ≤ 60) := by
    intro n
    rcases Nat.lt_or_ge 60 n with h | h
    · rw [decide_eq_true (by omega), decide_eq_false (by omega)]; rfl
    · rw [decide_eq_false (by omega), decide_eq_true (by omega)]; rfl
  rw [e, e, e]; simp [fewF]
set_option maxHeartbeats 4000000 in
theorem obolref11_Light_c {s : Rk} : Fn Tryd.prog 7 [.agg (rk s)] [] (fun r h_ => r = bo (lightF s)) := by
  refine Fn.enter Tryd.func7 Tryd.ntmps7 rfl (h := ?_)
  have tf := tfr
  have ot_ : (false || true) = true := rfl
  obtain ⟨sv, sp, sl_⟩ := s
  repeat refine AW.seq ?_
  refine AW.reg ?_
  iterate 2 refine AOL.s1 (h := ?_)
  refine AOL.nil ?_
  refine AW.kq [1] (h := ?_)
  repeat refine AW.seq ?_
  refine AW.reg ?_
  iterate 4 refine AOL.s1 (h := ?_)
  refine AOL.nil ?_
  refine AW.kq [1, 7] (h := ?_)
  repeat refine AW.seq ?_
  refine AW.cond rfl (fun c_ => ?_) (fun c_ => ?_)
  · have hf : lightF ⟨sv, sp, sl_⟩ = false := by
      have : sl_.length > 200 := by have : (sl_.length : Int) > 200 := by simpa using c_
                                    omega
      simp only [lightF, if_pos this]
    repeat refine AW.seq ?_
    refine AW.reg ?_
    iterate 1 refine AOL.s1 (h := ?_)
    refine AOL.nil ?_
    refine AW.kq [2] (h := ?_)
    repeat refine AW.seq ?_
    refine AW.ret ?_
    refine ⟨_, [], rfl, HOk.nil _, ?_⟩
    simp only [one?, hf]
  have hl : ¬ sl_.length > 200 := by have : ¬ (sl_.length : Int) > 200 := by simpa using c_
                                     omega
  have hlf : lightF ⟨sv, sp, sl_⟩ = sl_.all fewF := by simp only [lightF, if_neg hl]
  rw [hlf]
  clear hlf c_
  refine AW.skip ?_
  repeat refine AW.seq ?_
  refine AW.reg ?_
  iterate 1 refine AOL.s1 (h := ?_)
  refine AOL.nil ?_
  refine AW.kq [1, 3] (h := ?_)
  repeat refine AW.seq ?_
  refine AW.block ?_
  repeat refine AW.seq ?_
  refine AW.loopK [1, 3] (fun n s => ∃ (k : Nat) (r : List Rw), s = ⟨43, [(1, .ptr 1016 0), (3, i k)], [(1016, ⟨24, true, [i sv, i sp, slF rw_ sl_]⟩)]⟩ ∧ sl_.drop k = r ∧ k ≤ sl_.length ∧ n = r.length ∧ r.all fewF = sl_.all fewF) (sl_.length) ?_ ?_
  · exact ⟨0, sl_, rfl, rfl, Nat.zero_le _, rfl, rfl⟩
  rintro n s ⟨k, r, rfl, hr, hkl, rfl, hi⟩
  repeat refine AW.seq ?_
  refine AW.reg ?_
  iterate 5 refine AOL.s1 (h := ?_)
  refine AOL.nil ?_
  refine AW.kq [1, 3, 12] (h := ?_)
  repeat refine AW.seq ?_
  refine AW.cond rfl (fun d_ => ?_) (fun d_ => ?_)
  · obtain ⟨t, r, rfl⟩ := ends_cons hr hkl (by simpa using d_)
    obtain ⟨hlt, hr', ht⟩ := dconsq hr
    have hd : (fm rw_ sl_).drop (k * 3) = slF tm t.a :: slF tm t.b :: slF tm t.c :: fm rw_ r := fm_drop rw_len hr
    have k0 : (0:Int) ≤ k := by omega
    have k1 : (k:Int) < sl_.length := by omega
    have hw := incq (k := k) (n := 201) (by omega) (by decide)
    have hb : ∀ b : Bool, b = (decide ((t.a.length : Int) > 60) || decide ((t.b.length : Int) > 60) || decide ((t.c.length : Int) > 60)) → (b = true → sl_.all fewF = false) ∧ (b = false → r.all fewF = sl_.all fewF) := by
      intro b e
      rw [fewF_eq] at e
      constructor
      · intro h; rw [h] at e; rw [← hi, List.all_cons]; cases hh : fewF t with
        | false => rfl
        | true => rw [hh] at e; cases e
      · intro h; rw [h] at e; rw [← hi, List.all_cons]; cases hh : fewF t with
        | false => rw [hh] at e; cases e
        | true => rfl
    clear hr hi d_ ht
    refine AW.skip ?_
    repeat refine AW.seq ?_
    refine AW.block ?_
    repeat refine AW.seq ?_
    refine AW.reg ?_
    iterate 9 refine AOL.s1 (h := ?_)
    refine AOL.kq [1, 3, 23] (h := ?_)
    refine AOL.or 23 32 (os' := ?_) (x := ?_) (h1 := ?_) (h0 := ?_) (h := ?_)
    rotate_left 2
    iterate 2
      · intro hb_ K' hK; (iterate 9 refine AOL.s1 (h := ?_)); refine AOL.kq [1, 3, 32] (h := ?_); exact hK
    iterate 1 refine AOL.s1 (h := ?_)
    refine AOL.kq [1, 3, 33] (h := ?_)
    refine AOL.or 33 42 (os' := ?_) (x := ?_) (h1 := ?_) (h0 := ?_) (h := ?_)
    rotate_left 2
    iterate 2
      · intro hb_ K' hK; (iterate 9 refine AOL.s1 (h := ?_)); refine AOL.kq [1, 3, 42] (h := ?_); exact hK
    refine AOL.nil ?_
    refine AW.kq [1, 3, 42] (h := ?_)
    repeat refine AW.seq ?_
    refine AW.cond rfl (fun e_ => ?_) (fun e_ => ?_)
    · have hf := (hb _ rfl).1 e_
      repeat refine AW.seq ?_
      refine AW.reg ?_
      iterate 1 refine AOL.s1 (h := ?_)
      refine AOL.nil ?_
      refine AW.kq [2] (h := ?_)
      repeat refine AW.seq ?_
      refine AW.ret ?_
      refine ⟨_, [], rfl, HOk.nil _, ?_⟩
      simp only [one?, hf]
    have hg := (hb _ rfl).2 e_
    refine AW.skip ?_
    repeat refine AW.seq ?_
    refine AW.reg ?_
    iterate 3 refine AOL.s1 (h := ?_)
    refine AOL.nil ?_
    exact ⟨r.length, by simp, _, r, rfl, hr', hlt, rfl, hg⟩
  · obtain rfl := ends_nil hr (by simpa using d_)
    have hg : sl_.all fewF = true := hi.symm
    clear hi hr
    repeat refine AW.seq ?_
    refine AW.exit ?_
    repeat (first | refine Kseq.ex ?_ | refine Kloop.ex ?_ | refine Kblock.miss (by decide) ?_)
    refine Kblock.hit ?_
    refine AW.kq [] (h := ?_)
    repeat refine AW.seq ?_
    refine AW.reg ?_
    iterate 1 refine AOL.s1 (h := ?_)
    refine AOL.nil ?_
    refine AW.kq [2] (h := ?_)
    repeat refine AW.seq ?_
    refine AW.ret ?_
    refine ⟨_, [], rfl, HOk.nil _, ?_⟩
    simp only [one?, hg]
def light14 (s : Rk) : Bool := lightF s && decide ((s.l.length:Int) ≤ 16) && (decide (s.v ≤ 60) || decide (s.v > 4096))
set_option maxHeartbeats 1000000 in
theorem rank_Holds_1_c {v : Int} : Fn Tryd.prog 17 [u v] [] (fun r h_ => r = bo (decide (v ≥ 288230376287764481))) := by
  refine Fn.enter Tryd.func17 Tryd.ntmps17 rfl (h := ?_)
  have tf := tfr
  have ot_ : (false || true) = true := rfl
  repeat refine AW.seq ?_
  refine AW.reg ?_
  iterate 1 refine AOL.s1 (h := ?_)
  refine AOL.nil ?_
  refine AW.kq [0] (h := ?_)
  repeat refine AW.seq ?_
  refine AW.reg ?_
  iterate 3 refine AOL.s1 (h := ?_)
  refine AOL.nil ?_
  refine AW.kq [2] (h := ?_)
  repeat refine AW.seq ?_
  refine AW.ret ?_
  refine ⟨_, [], rfl, HOk.nil _, ?_⟩
  rfl
def idxF (p : Int → Bool) : List Int → Nat → Int
  | [], _ => -1
  | v :: l, k => if p v then k else idxF p l (k + 1)
theorem idxF_any (p : Int → Bool) : ∀ (V : List Int) (k : Nat), decide (idxF p V k ≥ 0) = V.any p
  | [], k => by simp [idxF]
  | v :: l, k => by
    simp only [idxF, List.any_cons]
    split
    · rename_i h; rw [h]; simp
    · rename_i h; rw [idxF_any p l (k + 1)]; simp [h]
set_option maxHeartbeats 4000000 in
theorem slices_IndexFunc_uint64_uint64_c {V : List Int} {g : FuncId} {p : Int → Bool} (lV : V.length < 1000000000) (hV : wV V) (hcl : callable Tryd.prog g = true) (hg : ∀ v ∈ V, Fn Tryd.prog g [u v] [] (fun r _ => r = bo (p v))) : Fn Tryd.prog 31 [ul V, .clo g []] [] (fun r h_ => r = i (idxF p V 0)) := by
  refine Fn.enter Tryd.func31 Tryd.ntmps31 rfl (h := ?_)
  have tf := tfr
  have ot_ : (false || true) = true := rfl
  repeat refine AW.seq ?_
  refine AW.reg ?_
  iterate 1 refine AOL.s1 (h := ?_)
  refine AOL.nil ?_
  refine AW.kq [0, 1] (h := ?_)
  repeat refine AW.seq ?_
  refine AW.reg ?_
  iterate 3 refine AOL.s1 (h := ?_)
  refine AOL.nil ?_
  refine AW.kq [0, 1, 7, 8] (h := ?_)
  repeat refine AW.seq ?_
  refine AW.block ?_
  repeat refine AW.seq ?_
  refine AW.loopK [0, 1, 7, 8] (fun n s => ∃ (k : Nat), s = ⟨19, [(0, ul V), (1, .clo g []), (7, i V.length), (8, i k)], []⟩ ∧ k ≤ V.length ∧ n = V.length - k ∧ idxF p (V.drop k) k = idxF p V 0) (V.length) ?_ ?_
  · exact ⟨0, rfl, Nat.zero_le _, rfl, rfl⟩
  rintro n s ⟨k, rfl, hkl, rfl, hi⟩
  repeat refine AW.seq ?_
  refine AW.reg ?_
  iterate 1 refine AOL.s1 (h := ?_)
  refine AOL.nil ?_
  refine AW.kq [0, 1, 7, 8, 9] (h := ?_)
  repeat refine AW.seq ?_
  refine AW.cond rfl (fun d_ => ?_) (fun d_ => ?_)
  · have h1 : k < V.length := by have : (k:Int) < V.length := by simpa using d_
                                 omega
    obtain ⟨a, ha, haw, had⟩ := at_nat (n := k) (by omega) hV
    have k0 : (0:Int) ≤ k := by omega
    have k1 : (k:Int) < V.length := by omega
    have hw := incq h1 lV
    have cg := hg a (List.mem_of_getElem? ha)
    have hi : (if p a then (k:Int) else idxF p (V.drop (k + 1)) (k + 1)) = idxF p V 0 := by
      rw [← hi, List.drop_eq_getElem_cons h1]
      rw [List.getElem?_eq_getElem h1] at ha
      simp only [idxF, Option.some.inj ha]
    clear ha d_
    refine AW.skip ?_
    repeat refine AW.seq ?_
    refine AW.block ?_
    repeat refine AW.seq ?_
    refine AW.reg ?_
    iterate 2 refine AOL.s1 (h := ?_)
    refine AOL.nil ?_
    refine AW.kq [0, 1, 5, 7, 8] (h := ?_)
    repeat refine AW.seq ?_
    refine AW.reg ?_
    iterate 5 refine AOL.s1 (h := ?_)
    refine AOL.callD rfl cg hcl rfl rfl (h := ?_)
    refine AOL.nil ?_
    refine AW.kq [0, 1, 5, 7, 8, 16] (h := ?_)
    repeat refine AW.seq ?_
    refine AW.cond rfl (fun e_ => ?_) (fun e_ => ?_)
    · have hf : idxF p V 0 = k := by rw [← hi, if_pos e_]
      repeat refine AW.seq ?_
      refine AW.reg ?_
      iterate 2 refine AOL.s1 (h := ?_)
      refine AOL.nil ?_
      refine AW.kq [4] (h := ?_)
      repeat refine AW.seq ?_
      refine AW.ret ?_
      refine ⟨_, [], rfl, HOk.nil _, ?_⟩
      simp only [one?, hf]
    have hf : idxF p (V.drop (k + 1)) (k + 1) = idxF p V 0 := by rw [← hi, if_neg (by rw [e_]; decide)]
    refine AW.skip ?_
    repeat refine AW.seq ?_
    refine AW.reg ?_
    iterate 2 refine AOL.s1 (h := ?_)
    refine AOL.nil ?_
    exact ⟨V.length - (k + 1), by omega, _, rfl, h1, rfl, hf⟩
  · have hf : idxF p V 0 = -1 := by
      have : k = V.length := by have : ¬ (k:Int) < V.length := by simpa using d_
                                omega
      subst this
      rw [List.drop_length] at hi
      exact hi.symm
    repeat refine AW.seq ?_
    refine AW.exit ?_
    repeat (first | refine Kseq.ex ?_ | refine Kloop.ex ?_ | refine Kblock.miss (by decide) ?_)
    refine Kblock.hit ?_
    refine AW.kq [] (h := ?_)
    repeat refine AW.seq ?_
    refine AW.reg ?_
    iterate 1 refine AOL.s1 (h := ?_)
    refine AOL.nil ?_
    refine AW.kq [4] (h := ?_)
    repeat refine AW.seq ?_
    refine AW.ret ?_
    refine ⟨_, [], rfl, HOk.nil _, ?_⟩
    simp only [one?, hf]
set_option maxHeartbeats 1000000 in
theorem slices_ContainsFunc_uint64_uint64_c {V : List Int} {g : FuncId} {p : Int → Bool} (lV : V.length < 1000000000) (hV : wV V) (hcl : callable Tryd.prog g = true) (hg : ∀ v ∈ V, Fn Tryd.prog g [u v] [] (fun r _ => r = bo (p v))) : Fn Tryd.prog 16 [ul V, .clo g []] [] (fun r h_ => r = bo (V.any p)) := by
  refine Fn.enter Tryd.func16 Tryd.ntmps16 rfl (h := ?_)
  have tf := tfr
  have ot_ : (false || true) = true := rfl
  repeat refine AW.seq ?_
  refine AW.reg ?_
  iterate 1 refine AOL.s1 (h := ?_)
  refine AOL.nil ?_
  refine AW.kq [0, 1] (h := ?_)
  repeat refine AW.seq ?_
  refine AW.reg ?_
  iterate 2 refine AOL.s1 (h := ?_)
  refine AOL.callD rfl (slices_IndexFunc_uint64_uint64_c lV hV hcl hg) (by kernel_rfl) rfl rfl (h := ?_)
  iterate 2 refine AOL.s1 (h := ?_)
  refine AOL.nil ?_
  refine AW.kq [4] (h := ?_)
  repeat refine AW.seq ?_
  refine AW.ret ?_
  refine ⟨_, [], rfl, HOk.nil _, ?_⟩
  simp only [one?, idxF_any]
end Go.Proofs.YtjeafkodcmbabaaDoor.E.M

