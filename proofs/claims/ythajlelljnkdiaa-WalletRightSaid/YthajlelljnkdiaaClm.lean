/- obolref16.Climb: a contract over E. -/
import Derived.Test.YthajlelljnkdiaaTru
import Derived.Test.YthajlelljnkdiaaProg
import Derived.KernelRfl
set_option linter.unusedVariables false
set_option linter.unusedSimpArgs false
set_option maxRecDepth 10000
open Go Go.Proofs.Ythajlelljnkdiaa.E Go.Proofs
namespace Go.Proofs.Ythajlelljnkdiaa.E.M
theorem nonneg_0 {n : Int} (h : n < 0) : nonneg n = 0 := if_pos h
theorem nonneg_n {n : Int} (h : ¬ n < 0) : nonneg n = n := if_neg h
theorem climbH_l {h : Int} (hh : lR h) : ∀ (p : List Int) (n : Int), lR (climbH p n h)
  | [], _ => hh
  | x :: r, n => by
    unfold climbH
    refine climbH_l ?_ r (n / 2)
    split <;> exact twoH_l _ _
set_option maxHeartbeats 1000000 in
theorem obolref16_Climb_c {h n : Int} {V : List Int} (hh : w64 h) (hn : n < 9223372036854775808) (hV : wV V) (lV : V.length < 1000000000) : Fn Try.prog 29 [u h, i n, ul V] [] (fun r h_ => r = u (climbH V (nonneg n) h)) := by
  refine Fn.enter Try.func29 Try.ntmps29 rfl (h := ?_)
  have tf := tfn
  have ot_ : (false || true) = true := rfl
  repeat refine AW.seq ?_
  refine AW.reg ?_
  iterate 1 refine AOL.s1 (h := ?_)
  refine AOL.nil ?_
  refine AW.kq [0, 1, 2] (h := ?_)
  repeat refine AW.seq ?_
  refine AW.reg ?_
  iterate 2 refine AOL.s1 (h := ?_)
  refine AOL.nil ?_
  refine AW.kq [1, 2, 7] (h := ?_)
  repeat refine AW.seq ?_
  refine AW.reg ?_
  iterate 2 refine AOL.s1 (h := ?_)
  refine AOL.nil ?_
  refine AW.kq [2, 7, 8] (h := ?_)
  repeat refine AW.seq ?_
  refine AW.reg ?_
  iterate 2 refine AOL.s1 (h := ?_)
  refine AOL.nil ?_
  refine AW.kq [2, 7, 8, 13] (h := ?_)
  repeat refine AW.seq ?_
  refine AW.midK [2, 7, 8] (fun t => ∃ (m : Int), t = ⟨38, [(2, ul V), (7, u h), (8, i m)], []⟩ ∧ m = nonneg n) ?_ ?_
  · refine AW.cond rfl (fun c_ => ?_) (fun c_ => ?_)
    · skip
      repeat refine AW.seq ?_
      refine AW.reg ?_
      iterate 1 refine AOL.s1 (h := ?_)
      refine AOL.nil ?_
      exact ⟨_, rfl, (nonneg_0 (by simpa using c_)).symm⟩
    · skip
      refine AW.skip ?_
      exact ⟨_, rfl, (nonneg_n (by simpa using c_)).symm⟩
  rintro t ⟨m, rfl, rfl⟩
  repeat refine AW.seq ?_
  refine AW.reg ?_
  iterate 1 refine AOL.s1 (h := ?_)
  refine AOL.nil ?_
  refine AW.kq [2, 7, 8, 9] (h := ?_)
  repeat refine AW.seq ?_
  refine AW.block ?_
  repeat refine AW.seq ?_
  have m0 : 0 ≤ nonneg n ∧ nonneg n < 9223372036854775808 := by unfold nonneg; split <;> omega
  generalize nonneg n = m at *
  refine AW.loopK [2, 7, 8, 9] (fun n' s => ∃ (k : Nat) (a : Int) (g : Int) (r : List Int), s = ⟨38, [(2, ul V), (7, u g), (8, i a), (9, i k)], []⟩ ∧ V.drop k = r ∧ k ≤ V.length ∧ n' = r.length ∧ w64 g ∧ (0 ≤ a ∧ a < 9223372036854775808) ∧ climbH r a g = climbH V m h) (V.length) ?_ ?_
  · exact ⟨0, m, h, V, rfl, rfl, Nat.zero_le _, rfl, hh, m0, rfl⟩
  rintro n' s ⟨k, a, g, r, rfl, hr, hkl, rfl, hg, ha, hi⟩
  repeat refine AW.seq ?_
  refine AW.reg ?_
  iterate 4 refine AOL.s1 (h := ?_)
  refine AOL.nil ?_
  refine AW.kq [2, 7, 8, 9, 17] (h := ?_)
  repeat refine AW.seq ?_
  refine AW.cond rfl (fun d_ => ?_) (fun d_ => ?_)
  · obtain ⟨t, r, rfl⟩ := ends_cons hr hkl (by simpa using d_)
    obtain ⟨hlt, hr', ht⟩ := dconsq hr
    have hw := incq hlt lV
    have k0 : (0:Int) ≤ k := by omega
    have k1 : (k:Int) < V.length := by omega
    have hd1 : (fm u1 V).drop (k * 1) = u t :: fm u1 r := fm_drop u1_len hr
    have hd' : (fm u1 V).drop k = u t :: fm u1 r := by simpa using hd1
    have wt : w64 t := hV t (List.mem_of_getElem? ht)
    have t1 : Int.tmod a 2 = a % 2 := tmod_nn ha.1
    have t2 : Int.tdiv a 2 = a / 2 := Int.tdiv_eq_ediv_of_nonneg ha.1
    have t3 : IntKind.i64.wrap (a / 2) = a / 2 := by rw [wrapI_o (by omega) (by omega)]
    have t4 : IntKind.i64.wrap (a % 2) = a % 2 := by rw [wrapI_o (by omega) (by omega)]
    have hi : climbH r (a / 2) (if a % 2 = 1 then twoH t g else twoH g t) = climbH V m h := hi
    clear hd1
    refine AW.skip ?_
    repeat refine AW.seq ?_
    refine AW.block ?_
    repeat refine AW.seq ?_
    refine AW.reg ?_
    iterate 3 refine AOL.s1 (h := ?_)
    refine AOL.nil ?_
    refine AW.kq [2, 7, 8, 9, 22] (h := ?_)
    repeat refine AW.seq ?_
    refine AW.midK [2, 7, 8, 9] (fun t => ∃ (g' : Int), t = ⟨38, [(2, ul V), (7, u g'), (8, i a), (9, i k)], []⟩ ∧ w64 g' ∧ climbH r (a / 2) g' = climbH V m h) ?_ ?_
    · refine AW.cond rfl (fun e_ => ?_) (fun e_ => ?_)
      · rw [if_pos (by simpa using e_)] at hi
        repeat refine AW.seq ?_
        refine AW.reg ?_
        iterate 5 refine AOL.s1 (h := ?_)
        refine AOL.callD rfl (obolref10_Two_c wt hg) (by kernel_rfl) rfl rfl (h := ?_)
        iterate 1 refine AOL.s1 (h := ?_)
        refine AOL.nil ?_
        exact ⟨_, rfl, (twoH_l _ _).w, hi⟩
      · rw [if_neg (by simpa using e_)] at hi
        repeat refine AW.seq ?_
        refine AW.reg ?_
        iterate 5 refine AOL.s1 (h := ?_)
        refine AOL.callD rfl (obolref10_Two_c hg wt) (by kernel_rfl) rfl rfl (h := ?_)
        iterate 1 refine AOL.s1 (h := ?_)
        refine AOL.nil ?_
        exact ⟨_, rfl, (twoH_l _ _).w, hi⟩
    rintro t ⟨g', rfl, hg', hi'⟩
    clear hi t1 t4
    repeat refine AW.seq ?_
    refine AW.reg ?_
    iterate 3 refine AOL.s1 (h := ?_)
    refine AOL.nil ?_
    repeat refine AW.seq ?_
    refine AW.reg ?_
    iterate 3 refine AOL.s1 (h := ?_)
    refine AOL.nil ?_
    exact ⟨r.length, by simp, k + 1, a / 2, g', r, rfl, hr', hlt, rfl, hg', by omega, hi'⟩
  · obtain rfl := ends_nil hr (by simpa using d_)
    have hi : g = climbH V m h := hi
    subst hi
    repeat refine AW.seq ?_
    refine AW.exit ?_
    repeat (first | refine Kseq.ex ?_ | refine Kloop.ex ?_ | refine Kblock.miss (by decide) ?_)
    refine Kblock.hit ?_
    refine AW.kq [7] (h := ?_)
    repeat refine AW.seq ?_
    refine AW.reg ?_
    iterate 2 refine AOL.s1 (h := ?_)
    refine AOL.nil ?_
    refine AW.kq [6] (h := ?_)
    repeat refine AW.seq ?_
    refine AW.ret ?_
    refine ⟨_, [], rfl, HOk.nil _, ?_⟩
    rfl
end Go.Proofs.Ythajlelljnkdiaa.E.M

