/- A proof's bytes: a contract over E. -/
import Derived.Test.YtdbpjegocmdplaaGroA
import Derived.Test.YtdbpjegocmdplaaProg
import Derived.KernelRfl
set_option linter.unusedVariables false
set_option linter.unusedSimpArgs false
set_option maxRecDepth 10000
open Go Go.Proofs.Ytdbpjegocmdplaa.E Go.Proofs
namespace Go.Proofs.Ytdbpjegocmdplaa.E.M
abbrev pfc (a b c : P3) : List AV := [bo a.1, u a.2.1, u a.2.2, bo b.1, u b.2.1, u b.2.2, bo c.1, u c.2.1, u c.2.2]
abbrev pf (a b c : P3) : AV := .agg (pfc a b c)
def bytesG (a : P3) : List Int := bytesP a.1 a.2.1 a.2.2
def isG (a : P3) : Bool := isPt a.1 a.2.1 a.2.2
def writeG (a b c : P3) : AV := if (isG a && isG b && isG c) = true then .tup [sl8 (bytesG a ++ bytesG b ++ bytesG c), nil_] else .tup [.val (.slice none 0 0), er 1]
theorem bytesG_len (a : P3) : (bytesG a).length ≤ 17 := by
  unfold bytesG bytesP
  split
  · decide
  · simp [be]
set_option maxHeartbeats 16000000 in
theorem groth_Write_c {a b c : P3} (ha : wP3 a) (hb : wP3 b) (hc : wP3 c) : Fn Try.prog 12 [pf a b c] [] (fun r _ => r = writeG a b c) := by
  have ca := curve_Write_c (b := a.1) ha.1 ha.2
  have cb := curve_Write_c (b := b.1) hb.1 hb.2
  have cc := curve_Write_c (b := c.1) hc.1 hc.2
  unfold writeV at ca cb cc
  rw [show isPt a.1 a.2.1 a.2.2 = isG a from rfl, show bytesP a.1 a.2.1 a.2.2 = bytesG a from rfl] at ca
  rw [show isPt b.1 b.2.1 b.2.2 = isG b from rfl, show bytesP b.1 b.2.1 b.2.2 = bytesG b from rfl] at cb
  rw [show isPt c.1 c.2.1 c.2.2 = isG c from rfl, show bytesP c.1 c.2.1 c.2.2 = bytesG c from rfl] at cc
  have la := bytesG_len a
  have lb := bytesG_len b
  have lc := bytesG_len c
  unfold writeG
  generalize bytesG a = A at *
  generalize bytesG b = B at *
  generalize bytesG c = C at *
  have f1 := by8_len A
  have f2 := by8_len B
  have f3 := by8_len C
  have f4 : (by8 A ++ by8 B).length = A.length + B.length := by rw [List.length_append, f1, f2]
  have a1 : A.length ≤ 140737488355328 := by omega
  have a2 : A.length ≤ 4611686018427387904 := by omega
  have b1 : A.length + B.length ≤ 140737488355328 := by omega
  have b2 : A.length + B.length ≤ 4611686018427387904 := by omega
  have c1 : A.length + B.length + C.length ≤ 140737488355328 := by omega
  have c2 : A.length + B.length + C.length ≤ 4611686018427387904 := by omega
  clear la lb lc
  refine Fn.enter Try.func12 Try.ntmps12 rfl (h := ?_)
  have tf := tf
  have tfb := tfb
  have tfl := tfl
  have tfg := tfg
  have ot_ : (false || true) = true := rfl
  have i03 : decide ((0:Int) < ((3:Nat):Int)) = true := rfl
  have i13 : decide ((1:Int) < ((3:Nat):Int)) = true := rfl
  have i23 : decide ((2:Int) < ((3:Nat):Int)) = true := rfl
  have i33 : decide ((3:Int) < ((3:Nat):Int)) = false := rfl
  have q0 : (0:Int) ≤ 0 := by decide
  have q1 : (0:Int) ≤ 1 := by decide
  have q2 : (0:Int) ≤ 2 := by decide
  have x0 : (0:Int) < ((3:Nat):Int) := by decide
  have x1 : (1:Int) < ((3:Nat):Int) := by decide
  have x2 : (2:Int) < ((3:Nat):Int) := by decide
  have n0 : Int.toNat 0 = 0 := rfl
  have n1 : Int.toNat 1 = 1 := rfl
  have n2 : Int.toNat 2 = 2 := rfl
  have p1 : IntKind.i64.wrap (0 + 1) = 1 := by decide
  have p2 : IntKind.i64.wrap (1 + 1) = 2 := by decide
  have p3 : IntKind.i64.wrap (2 + 1) = 3 := by decide
  have z9 : (9:Nat) ≤ 16777216 := by decide
  repeat refine AW.seq ?_
  refine AW.reg ?_
  iterate 3 refine AOL.s1 (h := ?_)
  refine AOL.nil ?_
  refine AW.kq [1] (h := ?_)
  repeat refine AW.seq ?_
  refine AW.reg ?_
  iterate 1 refine AOL.s1 (h := ?_)
  refine AOL.nil ?_
  refine AW.kq [1, 4] (h := ?_)
  repeat refine AW.seq ?_
  refine AW.reg ?_
  iterate 9 refine AOL.s1 (h := ?_)
  refine AOL.nil ?_
  refine AW.kq [4, 15, 16, 17] (h := ?_)
  refine AW.let 1016 (h := ?_)
  repeat refine AW.seq ?_
  refine AW.block ?_
  repeat refine AW.seq ?_
  refine AW.rounds ?_
  refine AWin.next [4, 15, 16, 17] (h := ?_)
  cases ha_ : isG a with
  | false =>
    rw [ha_] at ca
    simp only [Bool.false_eq_true, if_false] at ca
    simp only [ha_, Bool.false_and, Bool.and_false, Bool.false_eq_true, if_false]
    repeat refine AW.seq ?_
    refine AW.reg ?_
    iterate 1 refine AOL.s1 (h := ?_)
    refine AOL.nil ?_
    refine AW.kq [4, 15, 16, 17, 18] (h := ?_)
    repeat refine AW.seq ?_
    refine AW.cond rfl (fun c_ => ?_) (fun c_ => ?_)
    rotate_left
    · cases c_
    refine AW.skip ?_
    repeat refine AW.seq ?_
    refine AW.block ?_
    repeat refine AW.seq ?_
    refine AW.reg ?_
    iterate 4 refine AOL.s1 (h := ?_)
    refine AOL.nil ?_
    refine AW.kq [4, 6, 15, 16, 17] (h := ?_)
    repeat refine AW.seq ?_
    refine AW.reg ?_
    iterate 1 refine AOL.s1 (h := ?_)
    refine AOL.callD rfl (ca) (by kernel_rfl) rfl rfl (h := ?_)
    iterate 5 refine AOL.s1 (h := ?_)
    refine AOL.nil ?_
    refine AW.kq [4, 7, 8, 15, 16, 17] (h := ?_)
    repeat refine AW.seq ?_
    refine AW.reg ?_
    iterate 2 refine AOL.s1 (h := ?_)
    refine AOL.nil ?_
    refine AW.kq [4, 7, 8, 15, 16, 17, 27] (h := ?_)
    repeat refine AW.seq ?_
    refine AW.cond rfl (fun d_ => ?_) (fun d_ => ?_)
    · repeat refine AW.seq ?_
      refine AW.reg ?_
      iterate 3 refine AOL.s1 (h := ?_)
      refine AOL.nil ?_
      refine AW.kq [2, 3] (h := ?_)
      repeat refine AW.seq ?_
      refine AW.ret ?_
      refine ⟨_, [], rfl, HOk.nil _, ?_⟩
      rfl
    cases d_
  | true =>
  rw [ha_] at ca
  simp only [if_true] at ca
  repeat refine AW.seq ?_
  refine AW.reg ?_
  iterate 1 refine AOL.s1 (h := ?_)
  refine AOL.nil ?_
  refine AW.kq [4, 15, 16, 17, 18] (h := ?_)
  repeat refine AW.seq ?_
  refine AW.cond rfl (fun c_ => ?_) (fun c_ => ?_)
  rotate_left
  · cases c_
  refine AW.skip ?_
  repeat refine AW.seq ?_
  refine AW.block ?_
  repeat refine AW.seq ?_
  refine AW.reg ?_
  iterate 4 refine AOL.s1 (h := ?_)
  refine AOL.nil ?_
  refine AW.kq [4, 6, 15, 16, 17] (h := ?_)
  repeat refine AW.seq ?_
  refine AW.reg ?_
  iterate 1 refine AOL.s1 (h := ?_)
  refine AOL.callD rfl (ca) (by kernel_rfl) rfl rfl (h := ?_)
  iterate 5 refine AOL.s1 (h := ?_)
  refine AOL.nil ?_
  refine AW.kq [4, 7, 8, 15, 16, 17] (h := ?_)
  repeat refine AW.seq ?_
  refine AW.reg ?_
  iterate 2 refine AOL.s1 (h := ?_)
  refine AOL.nil ?_
  refine AW.kq [4, 7, 8, 15, 16, 17, 27] (h := ?_)
  repeat refine AW.seq ?_
  refine AW.cond rfl (fun d_ => ?_) (fun d_ => ?_)
  · cases d_
  clear ca
  refine AW.skip ?_
  repeat refine AW.seq ?_
  refine AW.reg ?_
  iterate 4 refine AOL.s1 (h := ?_)
  refine AOL.nil ?_
  refine AW.let 1096 (h := ?_)
  repeat refine AW.seq ?_
  refine AW.reg ?_
  iterate 2 refine AOL.s1 (h := ?_)
  refine AOL.nil ?_
  refine AWin.next [4, 15, 16, 17] (h := ?_)
  cases hb_ : isG b with
  | false =>
    rw [hb_] at cb
    simp only [Bool.false_eq_true, if_false] at cb
    simp only [hb_, Bool.false_and, Bool.and_false, Bool.false_eq_true, if_false]
    repeat refine AW.seq ?_
    refine AW.reg ?_
    iterate 1 refine AOL.s1 (h := ?_)
    refine AOL.nil ?_
    refine AW.kq [4, 15, 16, 17, 18] (h := ?_)
    repeat refine AW.seq ?_
    refine AW.cond rfl (fun c_ => ?_) (fun c_ => ?_)
    rotate_left
    · cases c_
    refine AW.skip ?_
    repeat refine AW.seq ?_
    refine AW.block ?_
    repeat refine AW.seq ?_
    refine AW.reg ?_
    iterate 4 refine AOL.s1 (h := ?_)
    refine AOL.nil ?_
    refine AW.kq [4, 6, 15, 16, 17] (h := ?_)
    repeat refine AW.seq ?_
    refine AW.reg ?_
    iterate 1 refine AOL.s1 (h := ?_)
    refine AOL.callD rfl (cb) (by kernel_rfl) rfl rfl (h := ?_)
    iterate 5 refine AOL.s1 (h := ?_)
    refine AOL.nil ?_
    refine AW.kq [4, 7, 8, 15, 16, 17] (h := ?_)
    repeat refine AW.seq ?_
    refine AW.reg ?_
    iterate 2 refine AOL.s1 (h := ?_)
    refine AOL.nil ?_
    refine AW.kq [4, 7, 8, 15, 16, 17, 27] (h := ?_)
    repeat refine AW.seq ?_
    refine AW.cond rfl (fun d_ => ?_) (fun d_ => ?_)
    · repeat refine AW.seq ?_
      refine AW.reg ?_
      iterate 3 refine AOL.s1 (h := ?_)
      refine AOL.nil ?_
      refine AW.kq [2, 3] (h := ?_)
      repeat refine AW.seq ?_
      refine AW.ret ?_
      refine ⟨_, [], rfl, HOk.nil _, ?_⟩
      rfl
    cases d_
  | true =>
  rw [hb_] at cb
  simp only [if_true] at cb
  repeat refine AW.seq ?_
  refine AW.reg ?_
  iterate 1 refine AOL.s1 (h := ?_)
  refine AOL.nil ?_
  refine AW.kq [4, 15, 16, 17, 18] (h := ?_)
  repeat refine AW.seq ?_
  refine AW.cond rfl (fun c_ => ?_) (fun c_ => ?_)
  rotate_left
  · cases c_
  refine AW.skip ?_
  repeat refine AW.seq ?_
  refine AW.block ?_
  repeat refine AW.seq ?_
  refine AW.reg ?_
  iterate 4 refine AOL.s1 (h := ?_)
  refine AOL.nil ?_
  refine AW.kq [4, 6, 15, 16, 17] (h := ?_)
  repeat refine AW.seq ?_
  refine AW.reg ?_
  iterate 1 refine AOL.s1 (h := ?_)
  refine AOL.callD rfl (cb) (by kernel_rfl) rfl rfl (h := ?_)
  iterate 5 refine AOL.s1 (h := ?_)
  refine AOL.nil ?_
  refine AW.kq [4, 7, 8, 15, 16, 17] (h := ?_)
  repeat refine AW.seq ?_
  refine AW.reg ?_
  iterate 2 refine AOL.s1 (h := ?_)
  refine AOL.nil ?_
  refine AW.kq [4, 7, 8, 15, 16, 17, 27] (h := ?_)
  repeat refine AW.seq ?_
  refine AW.cond rfl (fun d_ => ?_) (fun d_ => ?_)
  · cases d_
  clear cb
  refine AW.skip ?_
  repeat refine AW.seq ?_
  refine AW.reg ?_
  iterate 4 refine AOL.s1 (h := ?_)
  refine AOL.nil ?_
  refine AW.let 1096 (h := ?_)
  repeat refine AW.seq ?_
  refine AW.reg ?_
  iterate 2 refine AOL.s1 (h := ?_)
  refine AOL.nil ?_
  refine AWin.next [4, 15, 16, 17] (h := ?_)
  cases hc_ : isG c with
  | false =>
    rw [hc_] at cc
    simp only [Bool.false_eq_true, if_false] at cc
    simp only [hc_, Bool.false_and, Bool.and_false, Bool.false_eq_true, if_false]
    repeat refine AW.seq ?_
    refine AW.reg ?_
    iterate 1 refine AOL.s1 (h := ?_)
    refine AOL.nil ?_
    refine AW.kq [4, 15, 16, 17, 18] (h := ?_)
    repeat refine AW.seq ?_
    refine AW.cond rfl (fun c_ => ?_) (fun c_ => ?_)
    rotate_left
    · cases c_
    refine AW.skip ?_
    repeat refine AW.seq ?_
    refine AW.block ?_
    repeat refine AW.seq ?_
    refine AW.reg ?_
    iterate 4 refine AOL.s1 (h := ?_)
    refine AOL.nil ?_
    refine AW.kq [4, 6, 15, 16, 17] (h := ?_)
    repeat refine AW.seq ?_
    refine AW.reg ?_
    iterate 1 refine AOL.s1 (h := ?_)
    refine AOL.callD rfl (cc) (by kernel_rfl) rfl rfl (h := ?_)
    iterate 5 refine AOL.s1 (h := ?_)
    refine AOL.nil ?_
    refine AW.kq [4, 7, 8, 15, 16, 17] (h := ?_)
    repeat refine AW.seq ?_
    refine AW.reg ?_
    iterate 2 refine AOL.s1 (h := ?_)
    refine AOL.nil ?_
    refine AW.kq [4, 7, 8, 15, 16, 17, 27] (h := ?_)
    repeat refine AW.seq ?_
    refine AW.cond rfl (fun d_ => ?_) (fun d_ => ?_)
    · repeat refine AW.seq ?_
      refine AW.reg ?_
      iterate 3 refine AOL.s1 (h := ?_)
      refine AOL.nil ?_
      refine AW.kq [2, 3] (h := ?_)
      repeat refine AW.seq ?_
      refine AW.ret ?_
      refine ⟨_, [], rfl, HOk.nil _, ?_⟩
      rfl
    cases d_
  | true =>
  rw [hc_] at cc
  simp only [if_true] at cc
  repeat refine AW.seq ?_
  refine AW.reg ?_
  iterate 1 refine AOL.s1 (h := ?_)
  refine AOL.nil ?_
  refine AW.kq [4, 15, 16, 17, 18] (h := ?_)
  repeat refine AW.seq ?_
  refine AW.cond rfl (fun c_ => ?_) (fun c_ => ?_)
  rotate_left
  · cases c_
  refine AW.skip ?_
  repeat refine AW.seq ?_
  refine AW.block ?_
  repeat refine AW.seq ?_
  refine AW.reg ?_
  iterate 4 refine AOL.s1 (h := ?_)
  refine AOL.nil ?_
  refine AW.kq [4, 6, 15, 16, 17] (h := ?_)
  repeat refine AW.seq ?_
  refine AW.reg ?_
  iterate 1 refine AOL.s1 (h := ?_)
  refine AOL.callD rfl (cc) (by kernel_rfl) rfl rfl (h := ?_)
  iterate 5 refine AOL.s1 (h := ?_)
  refine AOL.nil ?_
  refine AW.kq [4, 7, 8, 15, 16, 17] (h := ?_)
  repeat refine AW.seq ?_
  refine AW.reg ?_
  iterate 2 refine AOL.s1 (h := ?_)
  refine AOL.nil ?_
  refine AW.kq [4, 7, 8, 15, 16, 17, 27] (h := ?_)
  repeat refine AW.seq ?_
  refine AW.cond rfl (fun d_ => ?_) (fun d_ => ?_)
  · cases d_
  clear cc
  refine AW.skip ?_
  repeat refine AW.seq ?_
  refine AW.reg ?_
  iterate 4 refine AOL.s1 (h := ?_)
  refine AOL.nil ?_
  refine AW.let 1096 (h := ?_)
  repeat refine AW.seq ?_
  refine AW.reg ?_
  iterate 2 refine AOL.s1 (h := ?_)
  refine AOL.nil ?_
  refine AWin.next [4, 15, 16, 17] (h := ?_)
  simp only [Bool.and_self, if_true]
  repeat refine AW.seq ?_
  refine AW.reg ?_
  iterate 1 refine AOL.s1 (h := ?_)
  refine AOL.nil ?_
  refine AW.kq [4, 15, 16, 17, 18] (h := ?_)
  repeat refine AW.seq ?_
  refine AW.cond rfl (fun c_ => ?_) (fun c_ => ?_)
  · cases c_
  repeat refine AW.seq ?_
  refine AW.exit ?_
  repeat (first | refine Kseq.ex ?_ | refine Kloop.ex ?_ | refine Kblock.miss (by decide) ?_)
  refine Kblock.hit ?_
  refine AW.kq [4] (h := ?_)
  refine AW.fz 1496 rfl (fun h => by cases h) (h := ?_)
  repeat refine AW.seq ?_
  refine AW.reg ?_
  iterate 3 refine AOL.s1 (h := ?_)
  refine AOL.nil ?_
  refine AW.kq [2, 3] (h := ?_)
  repeat refine AW.seq ?_
  refine AW.ret ?_
  refine ⟨_, [], rfl, HOk.nil _, ?_⟩
  show AV.tup [.sl (A.length + B.length + C.length) (sub 0 (A.length + B.length + C.length) (by8 A ++ by8 B ++ by8 C)), nil_] = _
  rw [sub_all (Nat.le_of_eq (by rw [List.length_append, f4, f3])), by8_app, by8_app]
  show _ = AV.tup [.sl (A ++ B ++ C).length (by8 (A ++ B ++ C)), nil_]
  rw [List.length_append, List.length_append]

end Go.Proofs.Ytdbpjegocmdplaa.E.M

