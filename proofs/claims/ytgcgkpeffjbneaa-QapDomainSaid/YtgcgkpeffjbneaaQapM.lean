/- QapLong over E. -/
import Derived.Test.YtgcgkpeffjbneaaQapL
import Derived.Test.YtgcgkpeffjbneaaProg
import Derived.KernelRfl
set_option linter.unusedVariables false
set_option linter.unusedSimpArgs false
set_option maxRecDepth 10000
open Go Go.Proofs.Ytgcgkpeffjbneaa.E Go.Proofs
namespace Go.Proofs.Ytgcgkpeffjbneaa.E.M
abbrev nilS : AV := .val (.slice none 0 0)
abbrev rz (_ : Unit) : List AV := [nilS, nilS, nilS]
theorem rz_len (a : Unit) : (rz a).length = 3 := rfl
abbrev zr (n : Nat) : List AV := fm rz (List.replicate n ())
theorem cyc_zr : ∀ n : Nat, (cyc [.slice none 0 0, .slice none 0 0, .slice none 0 0] n).map AV.val = zr n
  | 0 => rfl
  | n + 1 => by
    simp only [cyc, List.map_append, cyc_zr n, zr, List.replicate_succ, fm]
    rfl
theorem mkrow {n : Nat} (h : n ≤ 1000000) : ∀ st d, aMake Try.prog st d 23 (n:Int) (n:Int) = some (.ref (lab d) 0 n 3, st.new (lab d) ⟨42, false, zr n⟩) := by
  intro st d
  have tf := tf
  have e : cMake Try.prog 23 (n:Int) (n:Int) = some (42, 3, zr n) := by
    simp only [cMake, tf]
    rw [if_pos (by refine ⟨rfl, by decide, rfl, by omega, by omega, by omega, by omega⟩)]
    rw [Int.toNat_natCast]
    show some (42, 3, (cyc [.slice none 0 0, .slice none 0 0, .slice none 0 0] n).map AV.val) = _
    rw [cyc_zr]
  simp only [aMake, e, Option.map_some, Int.toNat_natCast]
theorem zr_wk : ∀ n : Nat, Wks (zr n) (fm rw_ (List.replicate n ⟨[], [], []⟩))
  | 0 => .nil
  | n + 1 => by
    show Wks (rz () ++ zr n) (rw_ ⟨[], [], []⟩ ++ fm rw_ (List.replicate n ⟨[], [], []⟩))
    exact .app (.cons .nilS (.cons .nilS (.cons .nilS .nil))) (zr_wk n) rfl
abbrev s0 (n : Nat) : Rk := ⟨1, 0, List.replicate n ⟨[], [], []⟩⟩
theorem s0_wk (n : Nat) : Wks [.agg [i 1, i 0, .sl n (zr n)]] [.agg (rk (s0 n))] := by
  refine .cons (.agg (.cons (.refl _) (.cons (.refl _) (.cons ?_ .nil)))) .nil
  show Wk (.sl n (zr n)) (.sl (List.replicate n (⟨[], [], []⟩ : Rw)).length (fm rw_ (List.replicate n ⟨[], [], []⟩)))
  rw [List.length_replicate]
  exact .sl (zr_wk n)
theorem s0_len (n : Nat) (h : n ≤ 1000000) : LenK (s0 n) := by
  refine ⟨⟨by simp; omega, ?_⟩, ?_⟩
  · intro r hr; rw [List.eq_of_mem_replicate hr]; simp
  · intro r hr; rw [List.eq_of_mem_replicate hr]; simp
set_option maxHeartbeats 8000000 in
theorem obollaw14_QapLong_c {m : Int} (hm : i64b m) : Fn Try.prog 3 [i m] [] (fun r h_ => r = bo true) := by
  refine Fn.enter Try.func3 Try.ntmps3 rfl (h := ?_)
  have tf := tf
  have ot_ : (false || true) = true := rfl
  have cu := obollaw14_up_c
  repeat refine AW.seq ?_
  refine AW.reg ?_
  iterate 1 refine AOL.s1 (h := ?_)
  refine AOL.nil ?_
  refine AW.kq [0] (h := ?_)
  repeat refine AW.seq ?_
  refine AW.reg ?_
  refine AOL.callD rfl (cu) (by kernel_rfl) rfl rfl (h := ?_)
  iterate 1 refine AOL.s1 (h := ?_)
  refine AOL.nil ?_
  refine AW.kq [0, 3] (h := ?_)
  repeat refine AW.seq ?_
  refine AW.reg ?_
  iterate 3 refine AOL.s1 (h := ?_)
  refine AOL.kq [0, 3, 12] (h := ?_)
  refine AOL.or 12 15 (os' := ?_) (x := ?_) (h1 := ?_) (h0 := ?_) (h := ?_)
  rotate_left 2
  iterate 2
    · intro hb_ K' hK; (iterate 3 refine AOL.s1 (h := ?_)); refine AOL.kq [0, 3, 15] (h := ?_); exact hK
  refine AOL.nil ?_
  refine AW.kq [0, 3, 15] (h := ?_)
  repeat refine AW.seq ?_
  refine AW.midK [0, 3] (fun t => ∃ n : Nat, n ≤ 4200 ∧ t = ⟨41, [(0, i n), (3, bo true)], []⟩) ?_ ?_
  · refine AW.cond rfl (fun d_ => ?_) (fun d_ => ?_)
    · skip
      repeat refine AW.seq ?_
      refine AW.reg ?_
      iterate 1 refine AOL.s1 (h := ?_)
      refine AOL.nil ?_
      exact ⟨3, by decide, rfl⟩
    · have ⟨h0, h1⟩ : 0 ≤ m ∧ m ≤ 4200 := by simpa using d_
      obtain ⟨n, rfl⟩ := Int.eq_ofNat_of_zero_le h0
      refine AW.skip ?_
      exact ⟨n, by omega, rfl⟩
  rintro t ⟨n, hn, rfl⟩
  have cS := Fn.wk (qap_Size_c (s0_len n (by omega)).1) (s0_wk n)
  have cR := Fn.wk (obolref14_Size_c (s0_len n (by omega)) (by show (-9223372036854775808:Int) ≤ 1 ∧ (1:Int) < 9223372036854775808; decide)) (s0_wk n)
  have hmk := mkrow (n := n) (by omega)
  have hsub : sub 0 (n * 3) (zr n) = zr n := sub_all (Nat.le_of_eq (by rw [fm_len rz_len, List.length_replicate]))
  repeat refine AW.seq ?_
  refine AW.reg ?_
  iterate 5 refine AOL.s1 (h := ?_)
  refine AOL.nil ?_
  refine AW.kq [3, 4] (h := ?_)
  refine AW.fz 1272 rfl (fun h => by cases h) (h := ?_)
  rw [hsub]
  clear hsub hmk
  cases hc : chkF (s0 n)
  rotate_left
  all_goals
    unfold sizeF at cS
    unfold size2F at cR
    rw [hc] at cS cR
    simp only [if_true, Bool.false_eq_true, if_false] at cS cR
  rotate_left
  · have cC := obollaw00_Code_c (m := 3) (by decide) (by decide)
    repeat refine AW.seq ?_
    refine AW.reg ?_
    iterate 1 refine AOL.s1 (h := ?_)
    refine AOL.callD rfl (cS) (by kernel_rfl) rfl rfl (h := ?_)
    iterate 5 refine AOL.s1 (h := ?_)
    refine AOL.nil ?_
    refine AW.kq [3, 4, 5, 6] (h := ?_)
    repeat refine AW.seq ?_
    refine AW.reg ?_
    iterate 1 refine AOL.s1 (h := ?_)
    refine AOL.callD rfl (cR) (by kernel_rfl) rfl rfl (h := ?_)
    iterate 5 refine AOL.s1 (h := ?_)
    refine AOL.nil ?_
    refine AW.kq [3, 5, 6, 7, 8] (h := ?_)
    repeat refine AW.seq ?_
    refine AW.reg ?_
    iterate 8 refine AOL.s1 (h := ?_)
    refine AOL.callD rfl (cC) (by kernel_rfl) rfl rfl (h := ?_)
    iterate 4 refine AOL.s1 (h := ?_)
    refine AOL.nil ?_
    refine AW.kq [2] (h := ?_)
    repeat refine AW.seq ?_
    refine AW.ret ?_
    refine ⟨_, [], rfl, HOk.nil _, ?_⟩
    rfl
  have cC := obollaw00_Code0_c
  repeat refine AW.seq ?_
  refine AW.reg ?_
  iterate 1 refine AOL.s1 (h := ?_)
  refine AOL.callD rfl (cS) (by kernel_rfl) rfl rfl (h := ?_)
  iterate 5 refine AOL.s1 (h := ?_)
  refine AOL.nil ?_
  refine AW.kq [3, 4, 5, 6] (h := ?_)
  repeat refine AW.seq ?_
  refine AW.reg ?_
  iterate 1 refine AOL.s1 (h := ?_)
  refine AOL.callD rfl (cR) (by kernel_rfl) rfl rfl (h := ?_)
  iterate 5 refine AOL.s1 (h := ?_)
  refine AOL.nil ?_
  refine AW.kq [3, 5, 6, 7, 8] (h := ?_)
  repeat refine AW.seq ?_
  refine AW.reg ?_
  iterate 2 refine AOL.s1 (h := ?_)
  skip
  iterate 4 refine AOL.s1 (h := ?_)
  iterate 1 refine AOL.s1 (h := ?_)
  skip
  iterate 1 refine AOL.s1 (h := ?_)
  refine AOL.callD rfl (cC) (by kernel_rfl) rfl rfl (h := ?_)
  iterate 3 refine AOL.s1 (h := ?_)
  iterate 1 refine AOL.s1 (h := ?_)
  refine AOL.nil ?_
  refine AW.kq [2] (h := ?_)
  repeat refine AW.seq ?_
  refine AW.ret ?_
  refine ⟨_, [], rfl, HOk.nil _, ?_⟩
  rfl
end Go.Proofs.Ytgcgkpeffjbneaa.E.M

