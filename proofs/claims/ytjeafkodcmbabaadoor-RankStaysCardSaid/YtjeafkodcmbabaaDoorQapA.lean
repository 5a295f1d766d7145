/- Lists' values, sums, lists that are the same; whether values hold: contracts over E. -/
import Derived.Test.YtjeafkodcmbabaaDoorRankB
import Derived.Test.YtjeafkodcmbabaaDoorEF
import Derived.Test.YtjeafkodcmbabaaDoorProg
import Derived.KernelRfl
set_option linter.unusedVariables false
set_option linter.unusedSimpArgs false
set_option maxRecDepth 10000
open Go Go.Proofs.YtjeafkodcmbabaaDoor.E Go.Proofs
namespace Go.Proofs.YtjeafkodcmbabaaDoor.E.M
abbrev u1 (n : Int) : List AV := [u n]
theorem u1_len (n : Int) : (u1 n).length = 1 := rfl
abbrev ul (V : List Int) : AV := slF u1 V
abbrev wV (V : List Int) : Prop := ∀ v ∈ V, w64 v
abbrev RR : Int := 288230376287764481
theorem hR : md 288230376287764481 := by decide
theorem hR' : (0:Int) < 288230376287764481 ∧ (288230376287764481:Int) < 18446744073709551616 := by decide
theorem w64_r (a : Int) : w64 (a % 288230376287764481) := w64_mod hR a
set_option maxHeartbeats 1000000 in
theorem obolref07_Mul_c {a b : Int} (ha : w64 a) (hb : w64 b) : Fn Tryd.prog 27 [u a, u b] [] (fun r h_ => r = u (a * b % 288230376287764481)) := by
  refine Fn.enter Tryd.func27 Tryd.ntmps27 rfl (h := ?_)
  have tf := tfr
  have ot_ : (false || true) = true := rfl
  repeat refine AW.seq ?_
  refine AW.reg ?_
  iterate 1 refine AOL.s1 (h := ?_)
  refine AOL.nil ?_
  refine AW.kq [0, 1] (h := ?_)
  repeat refine AW.seq ?_
  refine AW.reg ?_
  iterate 2 refine AOL.s1 (h := ?_)
  refine AOL.callD rfl (obolref01_Mul_c hR' ha hb) (by kernel_rfl) rfl rfl (h := ?_)
  iterate 1 refine AOL.s1 (h := ?_)
  refine AOL.nil ?_
  refine AW.kq [4] (h := ?_)
  repeat refine AW.seq ?_
  refine AW.ret ?_
  refine ⟨_, [], rfl, HOk.nil _, ?_⟩
  rfl
set_option maxHeartbeats 1000000 in
theorem obolref07_Plus_c {a b : Int} (ha : w64 a) (hb : w64 b) : Fn Tryd.prog 26 [u a, u b] [] (fun r h_ => r = u ((a + b) % 288230376287764481)) := by
  refine Fn.enter Tryd.func26 Tryd.ntmps26 rfl (h := ?_)
  have tf := tfr
  have ot_ : (false || true) = true := rfl
  repeat refine AW.seq ?_
  refine AW.reg ?_
  iterate 1 refine AOL.s1 (h := ?_)
  refine AOL.nil ?_
  refine AW.kq [0, 1] (h := ?_)
  repeat refine AW.seq ?_
  refine AW.reg ?_
  iterate 2 refine AOL.s1 (h := ?_)
  refine AOL.callD rfl (obolref01_Add_c hR' ha hb) (by kernel_rfl) rfl rfl (h := ?_)
  iterate 1 refine AOL.s1 (h := ?_)
  refine AOL.nil ?_
  refine AW.kq [4] (h := ?_)
  repeat refine AW.seq ?_
  refine AW.ret ?_
  refine ⟨_, [], rfl, HOk.nil _, ?_⟩
  rfl
/-- a list's value, from so much on -/
def valF (V : List Int) : Int → List Tm → Int
  | out, [] => out
  | out, t :: l => valF V (if 0 ≤ t.v ∧ t.v < V.length then (out + t.k * (V[t.v.toNat]?.getD 0) % 288230376287764481) % 288230376287764481 else out) l
abbrev wT (L : List Tm) : Prop := ∀ t ∈ L, w64 t.k
theorem at_nat {V : List Int} {n : Nat} (h : (n:Int) < V.length) (hV : wV V) : ∃ v, V[n]? = some v ∧ w64 v ∧ (fm u1 V).drop n = u v :: fm u1 (V.drop (n + 1)) := by
  have h : n < V.length := by omega
  refine ⟨V[n], List.getElem?_eq_getElem h, hV _ (List.getElem_mem h), ?_⟩
  have := fm_at u1_len h
  rwa [Nat.mul_one] at this
set_option maxHeartbeats 4000000 in
theorem rank_Value_c {L : List Tm} {V : List Int} (hL : L.length < 1000000000) (hV : wV V) (hT : wT L) : Fn Tryd.prog 10 [slF tm L, ul V] [] (fun r h_ => r = u (valF V 0 L)) := by
  refine Fn.enter Tryd.func10 Tryd.ntmps10 rfl (h := ?_)
  have tf := tfr
  have ot_ : (false || true) = true := rfl
  repeat refine AW.seq ?_
  refine AW.reg ?_
  iterate 1 refine AOL.s1 (h := ?_)
  refine AOL.nil ?_
  refine AW.kq [0, 1] (h := ?_)
  repeat refine AW.seq ?_
  refine AW.reg ?_
  iterate 1 refine AOL.s1 (h := ?_)
  refine AOL.nil ?_
  refine AW.kq [0, 1, 5] (h := ?_)
  repeat refine AW.seq ?_
  refine AW.reg ?_
  iterate 3 refine AOL.s1 (h := ?_)
  refine AOL.nil ?_
  refine AW.kq [1, 5, 8, 9, 10] (h := ?_)
  repeat refine AW.seq ?_
  refine AW.block ?_
  repeat refine AW.seq ?_
  refine AW.loopK [1, 5, 8, 9, 10] (fun n s => ∃ (k : Nat) (out : Int) (r : List Tm), s = ⟨36, [(1, ul V), (5, u out), (8, slF tm L), (9, i L.length), (10, i k)], []⟩ ∧ L.drop k = r ∧ k ≤ L.length ∧ n = r.length ∧ w64 out ∧ valF V out r = valF V 0 L) (L.length) ?_ ?_
  · exact ⟨0, 0, L, rfl, rfl, Nat.zero_le _, rfl, by decide, rfl⟩
  rintro n s ⟨k, out, r, rfl, hr, hkl, rfl, ho, hi⟩
  repeat refine AW.seq ?_
  refine AW.reg ?_
  iterate 1 refine AOL.s1 (h := ?_)
  refine AOL.nil ?_
  refine AW.kq [1, 5, 8, 9, 10, 11] (h := ?_)
  repeat refine AW.seq ?_
  refine AW.cond rfl (fun c_ => ?_) (fun c_ => ?_)
  · cases r with
    | nil => have := dnilq hr hkl; simp at c_; omega
    | cons t r =>
    obtain ⟨hlt, hr', ht⟩ := dconsq hr
    have hd : (fm tm L).drop (k * 2) = i t.v :: u t.k :: fm tm r := fm_drop tm_len hr
    have k0 : (0:Int) ≤ k := by omega
    have k1 : (k:Int) < L.length := by omega
    have hw := incq hlt hL
    have htk := hT t (List.mem_of_getElem? ht)
    obtain ⟨tv, tk_⟩ := t
    simp only at hd htk
    clear hr ht
    refine AW.skip ?_
    repeat refine AW.seq ?_
    refine AW.block ?_
    repeat refine AW.seq ?_
    refine AW.reg ?_
    iterate 4 refine AOL.s1 (h := ?_)
    refine AOL.nil ?_
    refine AW.kq [1, 5, 7, 8, 9, 10] (h := ?_)
    repeat refine AW.seq ?_
    refine AW.reg ?_
    iterate 4 refine AOL.s1 (h := ?_)
    refine AOL.kq [1, 5, 7, 8, 9, 10, 17] (h := ?_)
    refine AOL.and 17 23 (os' := ?_) (x := ?_) (h1 := ?_) (h0 := ?_) (h := ?_)
    rotate_left 2
    iterate 2
      · intro hb_ K' hK; (iterate 6 refine AOL.s1 (h := ?_)); refine AOL.kq [1, 5, 7, 8, 9, 10, 23] (h := ?_); exact hK
    refine AOL.nil ?_
    refine AW.kq [1, 5, 7, 8, 9, 10, 23] (h := ?_)
    repeat refine AW.seq ?_
    refine AW.cond rfl (fun d_ => ?_) (fun d_ => ?_)
    · have ⟨h0, h1⟩ : 0 ≤ tv ∧ tv < V.length := by simpa using d_
      obtain ⟨m, rfl⟩ := Int.eq_ofNat_of_zero_le h0
      obtain ⟨v, hv, hvw, hvd⟩ := at_nat h1 hV
      have hn : valF V ((out + tk_ * v % 288230376287764481) % 288230376287764481) r = valF V 0 L := by
        rw [← hi]; simp only [valF, h0, h1, and_self, if_true, Int.toNat_natCast, hv, Option.getD_some]
      clear hi hd hv d_
      repeat refine AW.seq ?_
      refine AW.drw 9 [] (by kernel_rfl) (h := ?_)
      iterate 8 refine ADL.dm 1 (h := ?_)
      refine ADL.call rfl (modular_Mul_c hR htk hvw) (by kernel_rfl) rfl rfl (h := ?_)
      refine ADL.done hmix rfl rfl (hT := ?_)
      refine AOL.callD rfl (modular_Add_c hR ho (w64_r _)) (by kernel_rfl) rfl rfl (h := ?_)
      iterate 1 refine AOL.s1 (h := ?_)
      refine AOL.nil ?_
      repeat refine AW.seq ?_
      refine AW.let 1112 (h := ?_)
      refine AW.reg ?_
      iterate 2 refine AOL.s1 (h := ?_)
      refine AOL.nil ?_
      exact ⟨r.length, by simp, _, _, r, rfl, hr', hlt, rfl, w64_r _, hn⟩
    · have hn : valF V out r = valF V 0 L := by
        rw [← hi]; simp only [valF]; rw [if_neg (by simpa using d_)]
      clear hi hd
      refine AW.skip ?_
      repeat refine AW.seq ?_
      refine AW.let 1112 (h := ?_)
      refine AW.reg ?_
      iterate 2 refine AOL.s1 (h := ?_)
      refine AOL.nil ?_
      exact ⟨r.length, by simp, _, _, r, rfl, hr', hlt, rfl, ho, hn⟩
  · have : r = [] := by
      cases r with
      | nil => rfl
      | cons t r => have := (dconsq hr).1; simp at c_; omega
    subst this
    have hg : out = valF V 0 L := hi
    clear hi hr
    repeat refine AW.seq ?_
    refine AW.exit ?_
    repeat (first | refine Kseq.ex ?_ | refine Kloop.ex ?_ | refine Kblock.miss (by decide) ?_)
    refine Kblock.hit ?_
    refine AW.kq [5] (h := ?_)
    repeat refine AW.seq ?_
    refine AW.reg ?_
    iterate 2 refine AOL.s1 (h := ?_)
    refine AOL.nil ?_
    refine AW.kq [4] (h := ?_)
    repeat refine AW.seq ?_
    refine AW.ret ?_
    refine ⟨_, [], rfl, HOk.nil _, ?_⟩
    simp only [one?, hg]
end Go.Proofs.YtjeafkodcmbabaaDoor.E.M

