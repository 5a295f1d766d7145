/- QapDomain over E. -/
import Derived.Test.YtgcgkpeffjbneaaQapO
import Derived.Test.YtgcgkpeffjbneaaRankC
import Derived.Test.YtgcgkpeffjbneaaProg
import Derived.KernelRfl
set_option linter.unusedVariables false
set_option linter.unusedSimpArgs false
set_option maxRecDepth 10000
open Go Go.Proofs.Ytgcgkpeffjbneaa.E Go.Proofs
namespace Go.Proofs.Ytgcgkpeffjbneaa.E.M
theorem qap_At_f {s : Rk} {x : Int} {n : Nat} (hS : Len s) (hx : w64 x) (hc : chkF s = true) (hn : s.v = n) : Fn Try.prog 12 [.agg (rk s), u x] [] (fun r _ => r = .tup [.sl n (sub 0 (n * 1) (fm u1 (atL Rw.a s x))), .sl n (sub 0 (n * 1) (fm u1 (atL Rw.b s x))), .sl n (sub 0 (n * 1) (fm u1 (atL Rw.c s x))), u (zF (lg s.l.length) x), nil_]) := by
  have h := qap_At_o hS hx hc hn
  generalize atL Rw.a s x = A at *
  generalize atL Rw.b s x = B at *
  generalize atL Rw.c s x = C at *
  generalize zF (lg s.l.length) x = z at *
  have h1 : Fn Try.prog 12 [.agg (rk s), u x] [] (fun r h_ => ∃ l m : Nat, l ≠ m ∧ r = .tup [.sl n (sub 0 (n * 1) (fm u1 A)), .ref l 0 n 1, .ref m 0 n 1, u z, nil_] ∧ h_ = [(l, blk B), (m, blk C)]) := by
    refine Fn.fz h ?_
    rintro r hh ⟨f, _, _, h3, rfl, rfl⟩
    have e1 : f 1001 ≠ f 1000 := fun e => absurd (h3 1001 (by simp [hlabs]) 1000 (by simp [hlabs]) e) (by decide)
    have e2 : f 1002 ≠ f 1000 := fun e => absurd (h3 1002 (by simp [hlabs]) 1000 (by simp [hlabs]) e) (by decide)
    have e3 : f 1001 ≠ f 1002 := fun e => absurd (h3 1001 (by simp [hlabs]) 1002 (by simp [hlabs]) e) (by decide)
    refine ⟨f 1000, blk A, by simp [mapS, get?, renB, rens_fm u1_free], fun h => (by cases h), f 1001, f 1002, e3, ?_, ?_⟩
    · simp only [ren, rens, frz, frzs, if_true, if_neg e1, if_neg e2]
    · simp [mapS, renB, rens_fm u1_free, del, e1, e2, mapF]
  have h2 : Fn Try.prog 12 [.agg (rk s), u x] [] (fun r h_ => ∃ m : Nat, r = .tup [.sl n (sub 0 (n * 1) (fm u1 A)), .sl n (sub 0 (n * 1) (fm u1 B)), .ref m 0 n 1, u z, nil_] ∧ h_ = [(m, blk C)]) := by
    refine Fn.fz h1 ?_
    rintro r hh ⟨l, m, e, rfl, rfl⟩
    refine ⟨l, blk B, by simp [get?], fun h => (by cases h), m, ?_, ?_⟩
    · simp only [frz, frzs, if_true, if_neg e.symm]
    · simp [del, e.symm, mapF]
  refine (Fn.fz (R' := fun r _ => r = .tup [.sl n (sub 0 (n * 1) (fm u1 A)), .sl n (sub 0 (n * 1) (fm u1 B)), .sl n (sub 0 (n * 1) (fm u1 C)), u z, nil_]) h2 ?_)
  rintro r hh ⟨m, rfl, rfl⟩
  exact ⟨m, blk C, by simp [get?], fun h => (by cases h), by simp only [frz, frzs, if_true]⟩
theorem qap_At_c {s : Rk} {x : Int} {n : Nat} (hS : Len s) (hx : w64 x) (hc : chkF s = true) (hn : s.v = n) : Fn Try.prog 12 [.agg (rk s), u x] [] (fun r _ => r = .tup [ul (atL Rw.a s x), ul (atL Rw.b s x), ul (atL Rw.c s x), u (zF (lg s.l.length) x), nil_]) := by
  refine (qap_At_f hS hx hc hn).mono ?_
  rintro r _ rfl
  have l : ∀ sel, (atL sel s x).length = n := fun sel => by unfold atL; rw [atF_len, List.length_replicate, hn]; rfl
  have e : ∀ sel, AV.sl n (sub 0 (n * 1) (fm u1 (atL sel s x))) = ul (atL sel s x) := fun sel => by
    rw [sub_all (Nat.le_of_eq (by rw [fml, l, Nat.mul_one])), ul_def, l]
  rw [e, e, e]

set_option maxHeartbeats 4000000 in
theorem dom_1a {s : Rk} {V : List Int} {j : Int} {k : Nat} (cl : Fn Try.prog 10 [.agg (rk s)] [] (fun r _ => r = bo false)) (cs : Fn Try.prog 7 [.agg (rk s)] [] (fun r _ => r = .tup [i k, nil_])) : Fn Try.prog 4 [.agg (rk s), ul V, i j] [] (fun r _ => r = bo true) := by
  have cu := obollaw14_up_c
  skip
  refine Fn.enter Try.func4 Try.ntmps4 rfl (h := ?_)
  have tf := tf
  have ot_ : (false || true) = true := rfl
  have nt : (!true) = false := rfl
  have nf : (!false) = true := rfl
  repeat refine AW.seq ?_
  refine AW.reg ?_
  iterate 2 refine AOL.s1 (h := ?_)
  refine AOL.nil ?_
  refine AW.kq [1, 2, 3] (h := ?_)
  repeat refine AW.seq ?_
  refine AW.reg ?_
  refine AOL.callD rfl (cu) (by kernel_rfl) rfl rfl (h := ?_)
  iterate 1 refine AOL.s1 (h := ?_)
  refine AOL.nil ?_
  refine AW.kq [1, 2, 3, 7] (h := ?_)
  repeat refine AW.seq ?_
  refine AW.reg ?_
  iterate 1 refine AOL.s1 (h := ?_)
  refine AOL.callD rfl (cl) (by kernel_rfl) rfl rfl (h := ?_)
  iterate 1 refine AOL.s1 (h := ?_)
  refine AOL.nil ?_
  refine AW.kq [1, 2, 3, 7, 8] (h := ?_)
  repeat refine AW.seq ?_
  refine AW.reg ?_
  iterate 1 refine AOL.s1 (h := ?_)
  refine AOL.callD rfl (cs) (by kernel_rfl) rfl rfl (h := ?_)
  iterate 5 refine AOL.s1 (h := ?_)
  refine AOL.nil ?_
  refine AW.kq [1, 2, 3, 7, 8, 9, 10] (h := ?_)
  repeat refine AW.seq ?_
  refine AW.reg ?_
  iterate 24 refine AOL.s1 (h := ?_)
  refine AOL.nil ?_
  refine AW.kq [1, 2, 3, 7, 9, 49] (h := ?_)
  repeat refine AW.seq ?_
  refine AW.cond rfl (fun c_ => ?_) (fun c_ => ?_)
  · repeat refine AW.seq ?_
    refine AW.reg ?_
    iterate 2 refine AOL.s1 (h := ?_)
    refine AOL.nil ?_
    refine AW.kq [6] (h := ?_)
    repeat refine AW.seq ?_
    refine AW.ret ?_
    refine ⟨_, [], rfl, HOk.nil _, ?_⟩
    rfl
  cases c_
set_option maxHeartbeats 4000000 in
theorem dom_1b {s : Rk} {V : List Int} {j : Int} (cl : Fn Try.prog 10 [.agg (rk s)] [] (fun r _ => r = bo false)) (cs : Fn Try.prog 7 [.agg (rk s)] [] (fun r _ => r = .tup [i 0, er 3])) : Fn Try.prog 4 [.agg (rk s), ul V, i j] [] (fun r _ => r = bo true) := by
  have cu := obollaw14_up_c
  skip
  refine Fn.enter Try.func4 Try.ntmps4 rfl (h := ?_)
  have tf := tf
  have ot_ : (false || true) = true := rfl
  have nt : (!true) = false := rfl
  have nf : (!false) = true := rfl
  repeat refine AW.seq ?_
  refine AW.reg ?_
  iterate 2 refine AOL.s1 (h := ?_)
  refine AOL.nil ?_
  refine AW.kq [1, 2, 3] (h := ?_)
  repeat refine AW.seq ?_
  refine AW.reg ?_
  refine AOL.callD rfl (cu) (by kernel_rfl) rfl rfl (h := ?_)
  iterate 1 refine AOL.s1 (h := ?_)
  refine AOL.nil ?_
  refine AW.kq [1, 2, 3, 7] (h := ?_)
  repeat refine AW.seq ?_
  refine AW.reg ?_
  iterate 1 refine AOL.s1 (h := ?_)
  refine AOL.callD rfl (cl) (by kernel_rfl) rfl rfl (h := ?_)
  iterate 1 refine AOL.s1 (h := ?_)
  refine AOL.nil ?_
  refine AW.kq [1, 2, 3, 7, 8] (h := ?_)
  repeat refine AW.seq ?_
  refine AW.reg ?_
  iterate 1 refine AOL.s1 (h := ?_)
  refine AOL.callD rfl (cs) (by kernel_rfl) rfl rfl (h := ?_)
  iterate 5 refine AOL.s1 (h := ?_)
  refine AOL.nil ?_
  refine AW.kq [1, 2, 3, 7, 8, 9, 10] (h := ?_)
  repeat refine AW.seq ?_
  refine AW.reg ?_
  iterate 24 refine AOL.s1 (h := ?_)
  refine AOL.nil ?_
  refine AW.kq [1, 2, 3, 7, 9, 49] (h := ?_)
  repeat refine AW.seq ?_
  refine AW.cond rfl (fun c_ => ?_) (fun c_ => ?_)
  · repeat refine AW.seq ?_
    refine AW.reg ?_
    iterate 2 refine AOL.s1 (h := ?_)
    refine AOL.nil ?_
    refine AW.kq [6] (h := ?_)
    repeat refine AW.seq ?_
    refine AW.ret ?_
    refine ⟨_, [], rfl, HOk.nil _, ?_⟩
    rfl
  cases c_
set_option maxHeartbeats 4000000 in
theorem dom_2 {s : Rk} {V : List Int} {j : Int} (cl : Fn Try.prog 10 [.agg (rk s)] [] (fun r _ => r = bo true)) (cs : Fn Try.prog 7 [.agg (rk s)] [] (fun r _ => r = .tup [i 0, er 3])) : Fn Try.prog 4 [.agg (rk s), ul V, i j] [] (fun r _ => r = bo true) := by
  have cu := obollaw14_up_c
  skip
  refine Fn.enter Try.func4 Try.ntmps4 rfl (h := ?_)
  have tf := tf
  have ot_ : (false || true) = true := rfl
  have nt : (!true) = false := rfl
  have nf : (!false) = true := rfl
  repeat refine AW.seq ?_
  refine AW.reg ?_
  iterate 2 refine AOL.s1 (h := ?_)
  refine AOL.nil ?_
  refine AW.kq [1, 2, 3] (h := ?_)
  repeat refine AW.seq ?_
  refine AW.reg ?_
  refine AOL.callD rfl (cu) (by kernel_rfl) rfl rfl (h := ?_)
  iterate 1 refine AOL.s1 (h := ?_)
  refine AOL.nil ?_
  refine AW.kq [1, 2, 3, 7] (h := ?_)
  repeat refine AW.seq ?_
  refine AW.reg ?_
  iterate 1 refine AOL.s1 (h := ?_)
  refine AOL.callD rfl (cl) (by kernel_rfl) rfl rfl (h := ?_)
  iterate 1 refine AOL.s1 (h := ?_)
  refine AOL.nil ?_
  refine AW.kq [1, 2, 3, 7, 8] (h := ?_)
  repeat refine AW.seq ?_
  refine AW.reg ?_
  iterate 1 refine AOL.s1 (h := ?_)
  refine AOL.callD rfl (cs) (by kernel_rfl) rfl rfl (h := ?_)
  iterate 5 refine AOL.s1 (h := ?_)
  refine AOL.nil ?_
  refine AW.kq [1, 2, 3, 7, 8, 9, 10] (h := ?_)
  repeat refine AW.seq ?_
  refine AW.reg ?_
  iterate 24 refine AOL.s1 (h := ?_)
  refine AOL.nil ?_
  refine AW.kq [1, 2, 3, 7, 9, 49] (h := ?_)
  repeat refine AW.seq ?_
  refine AW.cond rfl (fun c_ => ?_) (fun c_ => ?_)
  · repeat refine AW.seq ?_
    refine AW.reg ?_
    iterate 2 refine AOL.s1 (h := ?_)
    refine AOL.nil ?_
    refine AW.kq [6] (h := ?_)
    repeat refine AW.seq ?_
    refine AW.ret ?_
    refine ⟨_, [], rfl, HOk.nil _, ?_⟩
    rfl
  cases c_
set_option maxHeartbeats 4000000 in
theorem dom_3 {s : Rk} {V : List Int} {j : Int} {k : Nat} (cl : Fn Try.prog 10 [.agg (rk s)] [] (fun r _ => r = bo true)) (cs : Fn Try.prog 7 [.agg (rk s)] [] (fun r _ => r = .tup [i k, nil_])) (h1 : ((V.length : Int) != s.v) = true) : Fn Try.prog 4 [.agg (rk s), ul V, i j] [] (fun r _ => r = bo true) := by
  have cu := obollaw14_up_c
  skip
  refine Fn.enter Try.func4 Try.ntmps4 rfl (h := ?_)
  have tf := tf
  have ot_ : (false || true) = true := rfl
  have nt : (!true) = false := rfl
  have nf : (!false) = true := rfl
  repeat refine AW.seq ?_
  refine AW.reg ?_
  iterate 2 refine AOL.s1 (h := ?_)
  refine AOL.nil ?_
  refine AW.kq [1, 2, 3] (h := ?_)
  repeat refine AW.seq ?_
  refine AW.reg ?_
  refine AOL.callD rfl (cu) (by kernel_rfl) rfl rfl (h := ?_)
  iterate 1 refine AOL.s1 (h := ?_)
  refine AOL.nil ?_
  refine AW.kq [1, 2, 3, 7] (h := ?_)
  repeat refine AW.seq ?_
  refine AW.reg ?_
  iterate 1 refine AOL.s1 (h := ?_)
  refine AOL.callD rfl (cl) (by kernel_rfl) rfl rfl (h := ?_)
  iterate 1 refine AOL.s1 (h := ?_)
  refine AOL.nil ?_
  refine AW.kq [1, 2, 3, 7, 8] (h := ?_)
  repeat refine AW.seq ?_
  refine AW.reg ?_
  iterate 1 refine AOL.s1 (h := ?_)
  refine AOL.callD rfl (cs) (by kernel_rfl) rfl rfl (h := ?_)
  iterate 5 refine AOL.s1 (h := ?_)
  refine AOL.nil ?_
  refine AW.kq [1, 2, 3, 7, 8, 9, 10] (h := ?_)
  repeat refine AW.seq ?_
  refine AW.reg ?_
  iterate 24 refine AOL.s1 (h := ?_)
  refine AOL.nil ?_
  refine AW.kq [1, 2, 3, 7, 9, 49] (h := ?_)
  repeat refine AW.seq ?_
  refine AW.cond rfl (fun c_ => ?_) (fun c_ => ?_)
  · repeat refine AW.seq ?_
    refine AW.reg ?_
    iterate 2 refine AOL.s1 (h := ?_)
    refine AOL.nil ?_
    refine AW.kq [6] (h := ?_)
    repeat refine AW.seq ?_
    refine AW.ret ?_
    refine ⟨_, [], rfl, HOk.nil _, ?_⟩
    rfl
  cases c_
set_option maxHeartbeats 4000000 in
theorem dom_4 {s : Rk} {V : List Int} {j : Int} {k : Nat} (cl : Fn Try.prog 10 [.agg (rk s)] [] (fun r _ => r = bo true)) (cs : Fn Try.prog 7 [.agg (rk s)] [] (fun r _ => r = .tup [i k, nil_])) (h1 : ((V.length : Int) != s.v) = false) (h2 : decide (j < 0) = true) : Fn Try.prog 4 [.agg (rk s), ul V, i j] [] (fun r _ => r = bo true) := by
  have cu := obollaw14_up_c
  skip
  refine Fn.enter Try.func4 Try.ntmps4 rfl (h := ?_)
  have tf := tf
  have ot_ : (false || true) = true := rfl
  have nt : (!true) = false := rfl
  have nf : (!false) = true := rfl
  repeat refine AW.seq ?_
  refine AW.reg ?_
  iterate 2 refine AOL.s1 (h := ?_)
  refine AOL.nil ?_
  refine AW.kq [1, 2, 3] (h := ?_)
  repeat refine AW.seq ?_
  refine AW.reg ?_
  refine AOL.callD rfl (cu) (by kernel_rfl) rfl rfl (h := ?_)
  iterate 1 refine AOL.s1 (h := ?_)
  refine AOL.nil ?_
  refine AW.kq [1, 2, 3, 7] (h := ?_)
  repeat refine AW.seq ?_
  refine AW.reg ?_
  iterate 1 refine AOL.s1 (h := ?_)
  refine AOL.callD rfl (cl) (by kernel_rfl) rfl rfl (h := ?_)
  iterate 1 refine AOL.s1 (h := ?_)
  refine AOL.nil ?_
  refine AW.kq [1, 2, 3, 7, 8] (h := ?_)
  repeat refine AW.seq ?_
  refine AW.reg ?_
  iterate 1 refine AOL.s1 (h := ?_)
  refine AOL.callD rfl (cs) (by kernel_rfl) rfl rfl (h := ?_)
  iterate 5 refine AOL.s1 (h := ?_)
  refine AOL.nil ?_
  refine AW.kq [1, 2, 3, 7, 8, 9, 10] (h := ?_)
  repeat refine AW.seq ?_
  refine AW.reg ?_
  iterate 24 refine AOL.s1 (h := ?_)
  refine AOL.nil ?_
  refine AW.kq [1, 2, 3, 7, 9, 49] (h := ?_)
  repeat refine AW.seq ?_
  refine AW.cond rfl (fun c_ => ?_) (fun c_ => ?_)
  · repeat refine AW.seq ?_
    refine AW.reg ?_
    iterate 2 refine AOL.s1 (h := ?_)
    refine AOL.nil ?_
    refine AW.kq [6] (h := ?_)
    repeat refine AW.seq ?_
    refine AW.ret ?_
    refine ⟨_, [], rfl, HOk.nil _, ?_⟩
    rfl
  cases c_
set_option maxHeartbeats 4000000 in
theorem dom_5 {s : Rk} {V : List Int} {j : Int} {k : Nat} (cl : Fn Try.prog 10 [.agg (rk s)] [] (fun r _ => r = bo true)) (cs : Fn Try.prog 7 [.agg (rk s)] [] (fun r _ => r = .tup [i k, nil_])) (h1 : ((V.length : Int) != s.v) = false) (h2 : decide (j < 0) = false) (h3 : decide (j ≥ s.l.length) = true) : Fn Try.prog 4 [.agg (rk s), ul V, i j] [] (fun r _ => r = bo true) := by
  have cu := obollaw14_up_c
  skip
  refine Fn.enter Try.func4 Try.ntmps4 rfl (h := ?_)
  have tf := tf
  have ot_ : (false || true) = true := rfl
  have nt : (!true) = false := rfl
  have nf : (!false) = true := rfl
  repeat refine AW.seq ?_
  refine AW.reg ?_
  iterate 2 refine AOL.s1 (h := ?_)
  refine AOL.nil ?_
  refine AW.kq [1, 2, 3] (h := ?_)
  repeat refine AW.seq ?_
  refine AW.reg ?_
  refine AOL.callD rfl (cu) (by kernel_rfl) rfl rfl (h := ?_)
  iterate 1 refine AOL.s1 (h := ?_)
  refine AOL.nil ?_
  refine AW.kq [1, 2, 3, 7] (h := ?_)
  repeat refine AW.seq ?_
  refine AW.reg ?_
  iterate 1 refine AOL.s1 (h := ?_)
  refine AOL.callD rfl (cl) (by kernel_rfl) rfl rfl (h := ?_)
  iterate 1 refine AOL.s1 (h := ?_)
  refine AOL.nil ?_
  refine AW.kq [1, 2, 3, 7, 8] (h := ?_)
  repeat refine AW.seq ?_
  refine AW.reg ?_
  iterate 1 refine AOL.s1 (h := ?_)
  refine AOL.callD rfl (cs) (by kernel_rfl) rfl rfl (h := ?_)
  iterate 5 refine AOL.s1 (h := ?_)
  refine AOL.nil ?_
  refine AW.kq [1, 2, 3, 7, 8, 9, 10] (h := ?_)
  repeat refine AW.seq ?_
  refine AW.reg ?_
  iterate 24 refine AOL.s1 (h := ?_)
  refine AOL.nil ?_
  refine AW.kq [1, 2, 3, 7, 9, 49] (h := ?_)
  repeat refine AW.seq ?_
  refine AW.cond rfl (fun c_ => ?_) (fun c_ => ?_)
  · repeat refine AW.seq ?_
    refine AW.reg ?_
    iterate 2 refine AOL.s1 (h := ?_)
    refine AOL.nil ?_
    refine AW.kq [6] (h := ?_)
    repeat refine AW.seq ?_
    refine AW.ret ?_
    refine ⟨_, [], rfl, HOk.nil _, ?_⟩
    rfl
  cases c_
set_option maxHeartbeats 8000000 in
theorem dom_6 {s : Rk} {V : List Int} {j k : Nat} {t : Rw} {A B C : List Int} {a b c x : Int} (cl : Fn Try.prog 10 [.agg (rk s)] [] (fun r _ => r = bo true)) (cs : Fn Try.prog 7 [.agg (rk s)] [] (fun r _ => r = .tup [i k, nil_])) (h1 : ((V.length : Int) != s.v) = false) (h3 : decide ((j : Int) ≥ s.l.length) = false)
    (hj : j < s.l.length) (hjP : j < 2 ^ k) (ht : s.l[j]? = some t)
    (cp : Fn Try.prog 11 [i k] [] (fun r _ => r = ul (ptsL (rootF k) (2 ^ k)))) (hx : pw (rootF k) j = x)
    (ca : Fn Try.prog 12 [.agg (rk s), u x] [] (fun r _ => r = .tup [ul A, ul B, ul C, u 0, nil_]))
    (sA : Fn Try.prog 13 [ul A, ul V] [] (fun r _ => r = u a)) (sB : Fn Try.prog 13 [ul B, ul V] [] (fun r _ => r = u b)) (sC : Fn Try.prog 13 [ul C, ul V] [] (fun r _ => r = u c))
    (vA : Fn Try.prog 14 [slF tm t.a, ul V] [] (fun r _ => r = u a)) (vB : Fn Try.prog 14 [slF tm t.b, ul V] [] (fun r _ => r = u b)) (vC : Fn Try.prog 14 [slF tm t.c, ul V] [] (fun r _ => r = u c)) :
    Fn Try.prog 4 [.agg (rk s), ul V, i j] [] (fun r _ => r = bo true) := by
  have cu := obollaw14_up_c
  have h2 : decide ((j : Int) < 0) = false := by rw [decide_eq_false_iff_not]; omega
  have hlp := ptsL_len (rootF k) (2 ^ k)
  obtain ⟨y, hy, hyw, hyd⟩ := at_nat (V := ptsL (rootF k) (2 ^ k)) (n := j) (by rw [hlp]; omega) (ptsL_w _ _)
  have hyx : y = x := by rw [ptsL_get _ hjP] at hy; rw [← hx]; exact (Option.some.inj hy).symm
  subst hyx
  have j0 : (0:Int) ≤ j := by omega
  have j1 : (j:Int) < (ptsL (rootF k) (2 ^ k)).length := by rw [hlp]; omega
  have j2 : (j:Int) < s.l.length := by omega
  clear hlp hy hx hjP hyw
  generalize ptsL (rootF k) (2 ^ k) = P at *
  have hdr : s.l.drop j = t :: s.l.drop (j + 1) := by
    rw [List.drop_eq_getElem_cons hj]; rw [List.getElem?_eq_getElem hj] at ht; rw [Option.some.inj ht]
  have hd : (fm rw_ s.l).drop (j * 3) = slF tm t.a :: slF tm t.b :: slF tm t.c :: fm rw_ (s.l.drop (j + 1)) := fm_drop rw_len hdr
  clear hdr ht hj
  refine Fn.enter Try.func4 Try.ntmps4 rfl (h := ?_)
  have tf := tf
  have ot_ : (false || true) = true := rfl
  have nt : (!true) = false := rfl
  have nf : (!false) = true := rfl
  repeat refine AW.seq ?_
  refine AW.reg ?_
  iterate 2 refine AOL.s1 (h := ?_)
  refine AOL.nil ?_
  refine AW.kq [1, 2, 3] (h := ?_)
  repeat refine AW.seq ?_
  refine AW.reg ?_
  refine AOL.callD rfl (cu) (by kernel_rfl) rfl rfl (h := ?_)
  iterate 1 refine AOL.s1 (h := ?_)
  refine AOL.nil ?_
  refine AW.kq [1, 2, 3, 7] (h := ?_)
  repeat refine AW.seq ?_
  refine AW.reg ?_
  iterate 1 refine AOL.s1 (h := ?_)
  refine AOL.callD rfl (cl) (by kernel_rfl) rfl rfl (h := ?_)
  iterate 1 refine AOL.s1 (h := ?_)
  refine AOL.nil ?_
  refine AW.kq [1, 2, 3, 7, 8] (h := ?_)
  repeat refine AW.seq ?_
  refine AW.reg ?_
  iterate 1 refine AOL.s1 (h := ?_)
  refine AOL.callD rfl (cs) (by kernel_rfl) rfl rfl (h := ?_)
  iterate 5 refine AOL.s1 (h := ?_)
  refine AOL.nil ?_
  refine AW.kq [1, 2, 3, 7, 8, 9, 10] (h := ?_)
  repeat refine AW.seq ?_
  refine AW.reg ?_
  iterate 24 refine AOL.s1 (h := ?_)
  refine AOL.nil ?_
  refine AW.kq [1, 2, 3, 7, 9, 49] (h := ?_)
  repeat refine AW.seq ?_
  refine AW.cond rfl (fun c_ => ?_) (fun c_ => ?_)
  · cases c_
  refine AW.skip ?_
  repeat refine AW.seq ?_
  refine AW.reg ?_
  iterate 1 refine AOL.s1 (h := ?_)
  refine AOL.callD rfl (cp) (by kernel_rfl) rfl rfl (h := ?_)
  iterate 4 refine AOL.s1 (h := ?_)
  refine AOL.nil ?_
  refine AW.kq [1, 2, 3, 7, 11] (h := ?_)
  repeat refine AW.seq ?_
  refine AW.reg ?_
  iterate 2 refine AOL.s1 (h := ?_)
  refine AOL.callD rfl (ca) (by kernel_rfl) rfl rfl (h := ?_)
  iterate 11 refine AOL.s1 (h := ?_)
  refine AOL.nil ?_
  refine AW.kq [1, 2, 3, 7, 12, 13, 14, 15, 16] (h := ?_)
  repeat refine AW.seq ?_
  refine AW.reg ?_
  iterate 7 refine AOL.s1 (h := ?_)
  refine AOL.nil ?_
  refine AW.kq [1, 7, 12, 13, 14, 15, 16, 17] (h := ?_)
  repeat refine AW.seq ?_
  refine AW.drw 36 [] (by kernel_rfl) (h := ?_)
  iterate 12 refine ADL.dm 1 (h := ?_)
  refine ADL.call rfl (sA) (by kernel_rfl) rfl rfl (h := ?_)
  iterate 3 refine ADL.dm 1 (h := ?_)
  refine ADL.call rfl (vA) (by kernel_rfl) rfl rfl (h := ?_)
  iterate 5 refine ADL.dm 1 (h := ?_)
  refine ADL.call rfl (sB) (by kernel_rfl) rfl rfl (h := ?_)
  iterate 3 refine ADL.dm 1 (h := ?_)
  refine ADL.call rfl (vB) (by kernel_rfl) rfl rfl (h := ?_)
  iterate 5 refine ADL.dm 1 (h := ?_)
  refine ADL.call rfl (sC) (by kernel_rfl) rfl rfl (h := ?_)
  iterate 3 refine ADL.dm 1 (h := ?_)
  refine ADL.done hmix rfl rfl (hT := ?_)
  refine AOL.callD rfl (vC) (by kernel_rfl) rfl rfl (h := ?_)
  iterate 3 refine AOL.s1 (h := ?_)
  refine AOL.nil ?_
  refine AW.kq [6] (h := ?_)
  repeat refine AW.seq ?_
  refine AW.ret ?_
  refine ⟨_, [], rfl, HOk.nil _, ?_⟩
  rfl
theorem obollaw14_QapDomain_c {s : Rk} {V : List Int} {j : Int} (hB : LenB s) (hv : i64b s.v) (hW : wR s) (hV : wV V) : Fn Try.prog 4 [.agg (rk s), ul V, i j] [] (fun r _ => r = bo true) := by
  have cl := obolref14_Light_c (s := s)
  cases hl : light14 s with
  | false =>
    rw [hl] at cl
    have cs := qap_Size_b hB
    cases hc : chkF s with
    | false =>
      have esz : sizeF s = [i 0, er 3] := by simp [sizeF, hc]
      rw [esz] at cs
      exact dom_1b cl cs
    | true =>
      have esz : sizeF s = [i (lg s.l.length : Nat), nil_] := by simp [sizeF, hc]
      rw [esz] at cs
      exact dom_1a cl cs
  | true =>
  rw [hl] at cl
  have hlf : lightF s = true := by
    cases h : lightF s with
    | true => rfl
    | false => simp [light14, h] at hl
  obtain ⟨hS, _⟩ := light_len hlf
  have cs := qap_Size_c hS
  cases hc : chkF s with
  | false =>
    have esz : sizeF s = [i 0, er 3] := by simp [sizeF, hc]
    rw [esz] at cs
    exact dom_2 cl cs
  | true =>
  have esz : sizeF s = [i (lg s.l.length : Nat), nil_] := by simp [sizeF, hc]
  rw [esz] at cs
  cases h1 : ((V.length : Int) != s.v) with
  | true => exact dom_3 cl cs h1
  | false =>
  cases h2 : decide (j < 0) with
  | true => exact dom_4 cl cs h1 h2
  | false =>
  cases h3 : decide (j ≥ s.l.length) with
  | true => exact dom_5 cl cs h1 h2 h3
  | false =>
  have hVs : (V.length : Int) = s.v := by simpa using h1
  have hj0 : 0 ≤ j := by simpa using h2
  have hj1 : j < s.l.length := by simpa using h3
  obtain ⟨m, rfl⟩ := Int.eq_ofNat_of_zero_le hj0
  have hm : m < s.l.length := by omega
  obtain ⟨k12, kN⟩ := lg_le (chk_len hc)
  have hin := chk_in hc hVs.symm
  obtain ⟨v1, v2, _, _⟩ := chk_v hc
  have ca := qap_At_c (x := pw (rootF (lg s.l.length)) m) hS (pw_w _ _) hc hVs.symm
  rw [z_zero k12] at ca
  have lV : V.length < 1000000000 := by omega
  have w : ∀ sel, wV (atL sel s (pw (rootF (lg s.l.length)) m)) := fun sel => atF_w _ _ _ _ _ (rep_w _)
  have l : ∀ sel, (atL sel s (pw (rootF (lg s.l.length)) m)).length < 1000000000 := fun sel => by unfold atL; rw [atF_len, List.length_replicate]; omega
  have sA := obolref14_Sum_c (w Rw.a) hV (l _)
  have sB := obolref14_Sum_c (w Rw.b) hV (l _)
  have sC := obolref14_Sum_c (w Rw.c) hV (l _)
  rw [at_place Rw.a hc hVs hm fun r hr => (hin r hr).1] at sA
  rw [at_place Rw.b hc hVs hm fun r hr => (hin r hr).2.1] at sB
  rw [at_place Rw.c hc hVs hm fun r hr => (hin r hr).2.2] at sC
  have hgm : s.l[m]? = some s.l[m] := List.getElem?_eq_getElem hm
  rw [hgm] at sA sB sC
  have hmem : s.l[m] ∈ s.l := List.getElem_mem hm
  obtain ⟨wa, wb, wc⟩ := hW _ hmem
  obtain ⟨la, lb, lc⟩ := hS.2 _ hmem
  exact dom_6 cl cs h1 h3 hm (by omega) hgm (obolref13_Points_c k12) rfl ca sA sB sC (obolref11_Value_c la hV wa) (obolref11_Value_c lb hV wb) (obolref11_Value_c lc hV wc)
theorem ta_termlb {k : Nat} {x : List AV} (h : TA Try.prog (k + 3) 40 x) : ∃ L : List Tm, x = [slF tm L] ∧ wT L ∧ L.length < 9223372036854775808 := by
  obtain ⟨es, hl, rfl, he⟩ := h
  obtain ⟨L, h1, h2, h3⟩ := ta_terms he
  exact ⟨L, by rw [show slF tm L = .sl L.length (fm tm L) from rfl, h1, h2], h3, by rw [h1]; unfold maxLen at hl; omega⟩
theorem ta_rowsb : ∀ {es : List (List AV)}, (∀ x ∈ es, TA Try.prog 4 42 x) → ∃ L : List Rw, L.length = es.length ∧ fm rw_ L = es.flatten ∧ ∀ r ∈ L, (wT r.a ∧ wT r.b ∧ wT r.c) ∧ (r.a.length < 9223372036854775808 ∧ r.b.length < 9223372036854775808 ∧ r.c.length < 9223372036854775808)
  | [], _ => ⟨[], rfl, rfl, by intro v hv; cases hv⟩
  | e :: es, h => by
    obtain ⟨a1, b1, rfl, h1, a2, b2, rfl, h2, a3, b3, rfl, h3, hb3⟩ := h e List.mem_cons_self
    have e3 : b3 = [] := hb3
    subst e3
    obtain ⟨A, rfl, wA, lA⟩ := ta_termlb (k := 0) h1
    obtain ⟨B, rfl, wB, lB⟩ := ta_termlb (k := 0) h2
    obtain ⟨C, rfl, wC, lC⟩ := ta_termlb (k := 0) h3
    obtain ⟨L, h1, h2, h3⟩ := ta_rowsb fun x hx => h x (List.mem_cons_of_mem _ hx)
    refine ⟨⟨A, B, C⟩ :: L, by simp [h1], by rw [List.flatten_cons, ← h2]; rfl, ?_⟩
    intro g' hg'
    rcases List.mem_cons.1 hg' with rfl | hg'
    · exact ⟨⟨wA, wB, wC⟩, lA, lB, lC⟩
    · exact h3 _ hg'
theorem open_rankb {c : AV} (h : PV Try.prog 6 25 c) : ∃ s : Rk, c = .agg (rk s) ∧ i64b s.v ∧ i64b s.p ∧ wR s ∧ LenB s := by
  obtain ⟨avs, ⟨a1, b1, rfl, ⟨v, hv, rfl⟩, a2, b2, rfl, ⟨o, ho, rfl⟩, a3, b3, rfl, ⟨es, hl, rfl, he⟩, hb3⟩, hc⟩ := h
  have e3 : b3 = [] := hb3
  subst e3
  obtain ⟨L, h1, h2, h3⟩ := ta_rowsb he
  refine ⟨⟨v, o, L⟩, ?_, wf_i64q hv, wf_i64q ho, fun r hr => (h3 r hr).1, ⟨by show L.length < _; rw [h1]; unfold maxLen at hl; omega, fun r hr => (h3 r hr).2⟩⟩
  have hc : c = .agg _ := hc
  rw [hc]
  show AV.agg [i v, i o, .sl es.length es.flatten] = AV.agg [i v, i o, .sl L.length (fm rw_ L)]
  rw [h1, h2]

end Go.Proofs.Ytgcgkpeffjbneaa.E.M

