/- The statement GrothWrites over E. -/
import Derived.Test.YtdbpjegocmdplaaGroH
import Derived.Test.YtdbpjegocmdplaaProg
import Derived.KernelRfl
set_option linter.unusedVariables false
set_option linter.unusedSimpArgs false
set_option maxRecDepth 10000
open Go Go.Proofs.Ytdbpjegocmdplaa.E Go.Proofs
namespace Go.Proofs.Ytdbpjegocmdplaa.E.M
theorem lenEq0 (n : Nat) : ((n : Int) == 0) = (n == 0) := by
  cases n with
  | zero => rfl
  | succ n => simp; omega
set_option maxHeartbeats 16000000 in
theorem obollaw15_GrothWrites_c {a b c : P3} (ha : wP3 a) (hb : wP3 b) (hc : wP3 c) : Fn Try.prog 4 [pf a b c] [] (fun r _ => r = bo true) := by
  have cu := obollaw15_up_c
  have cw := groth_Write_c ha hb hc
  have ia := obolref03_Is_c (b := a.1) ha.1 ha.2
  have ib := obolref03_Is_c (b := b.1) hb.1 hb.2
  have ic := obolref03_Is_c (b := c.1) hc.1 hc.2
  have ya := obolref03_Bytes_c (b := a.1) ha.1 ha.2
  have yb := obolref03_Bytes_c (b := b.1) hb.1 hb.2
  have yc := obolref03_Bytes_c (b := c.1) hc.1 hc.2
  have la := bytesG_len a
  have lb := bytesG_len b
  have lc := bytesG_len c
  unfold writeG at cw
  rw [show isPt a.1 a.2.1 a.2.2 = isG a from rfl] at ia
  rw [show isPt b.1 b.2.1 b.2.2 = isG b from rfl] at ib
  rw [show isPt c.1 c.2.1 c.2.2 = isG c from rfl] at ic
  rw [show bytesP a.1 a.2.1 a.2.2 = bytesG a from rfl] at ya
  rw [show bytesP b.1 b.2.1 b.2.2 = bytesG b from rfl] at yb
  rw [show bytesP c.1 c.2.1 c.2.2 = bytesG c from rfl] at yc
  generalize isG a = xa at *
  generalize isG b = xb at *
  generalize isG c = xc at *
  generalize bytesG a = A at *
  generalize bytesG b = B at *
  generalize bytesG c = C at *
  obtain ⟨a0, a1, a2⟩ := a
  obtain ⟨b0, b1, b2⟩ := b
  obtain ⟨c0, c1, c2⟩ := c
  have f1 := by8_len A
  have f2 := by8_len B
  have f3 := by8_len C
  have f4 : (by8 A ++ by8 B).length = A.length + B.length := by rw [List.length_append, f1, f2]
  have g1 : A.length ≤ 140737488355328 := by omega
  have g2 : A.length ≤ 4611686018427387904 := by omega
  have g3 : A.length + B.length ≤ 140737488355328 := by omega
  have g4 : A.length + B.length ≤ 4611686018427387904 := by omega
  have g5 : A.length + B.length + C.length ≤ 140737488355328 := by omega
  have g6 : A.length + B.length + C.length ≤ 4611686018427387904 := by omega
  clear la lb lc
  refine Fn.enter Try.func4 Try.ntmps4 rfl (h := ?_)
  have tf := tf
  have tfb := tfb
  have tfl := tfl
  have tfg := tfg
  have ot_ : (false || true) = true := rfl
  have nt : (!true) = false := rfl
  have nf : (!false) = true := rfl
  have z1 : (1 : Int) == 1 := rfl
  repeat refine AW.seq ?_
  refine AW.reg ?_
  iterate 2 refine AOL.s1 (h := ?_)
  refine AOL.nil ?_
  refine AW.kq [1] (h := ?_)
  repeat refine AW.seq ?_
  refine AW.reg ?_
  refine AOL.callD rfl (cu) (by kernel_rfl) rfl rfl (h := ?_)
  iterate 1 refine AOL.s1 (h := ?_)
  refine AOL.nil ?_
  refine AW.kq [1, 3] (h := ?_)
  repeat refine AW.seq ?_
  cases xa with
  | false =>
    rw [if_neg (by simp)] at cw
    refine AW.reg ?_
    iterate 1 refine AOL.s1 (h := ?_)
    refine AOL.callD rfl (cw) (by kernel_rfl) rfl rfl (h := ?_)
    iterate 5 refine AOL.s1 (h := ?_)
    refine AOL.nil ?_
    refine AW.kq [1, 3, 4, 5] (h := ?_)
    repeat refine AW.seq ?_
    refine AW.reg ?_
    iterate 2 refine AOL.s1 (h := ?_)
    refine AOL.callD rfl (ia) (by kernel_rfl) rfl rfl (h := ?_)
    iterate 13 refine AOL.s1 (h := ?_)
    refine AOL.nil ?_
    refine AW.kq [1, 3, 4, 5, 28] (h := ?_)
    repeat refine AW.seq ?_
    refine AW.cond rfl (fun c_ => ?_) (fun c_ => ?_)
    · repeat refine AW.seq ?_
      refine AW.reg ?_
      iterate 12 refine AOL.s1 (h := ?_)
      refine AOL.nil ?_
      refine AW.kq [2] (h := ?_)
      repeat refine AW.seq ?_
      refine AW.ret ?_
      refine ⟨_, [], rfl, HOk.nil _, ?_⟩
      rfl
    cases c_
  | true =>
  cases xb with
  | false =>
    rw [if_neg (by simp)] at cw
    refine AW.reg ?_
    iterate 1 refine AOL.s1 (h := ?_)
    refine AOL.callD rfl (cw) (by kernel_rfl) rfl rfl (h := ?_)
    iterate 5 refine AOL.s1 (h := ?_)
    refine AOL.nil ?_
    refine AW.kq [1, 3, 4, 5] (h := ?_)
    repeat refine AW.seq ?_
    refine AW.reg ?_
    iterate 2 refine AOL.s1 (h := ?_)
    refine AOL.callD rfl (ia) (by kernel_rfl) rfl rfl (h := ?_)
    iterate 4 refine AOL.s1 (h := ?_)
    refine AOL.callD rfl (ib) (by kernel_rfl) rfl rfl (h := ?_)
    iterate 8 refine AOL.s1 (h := ?_)
    refine AOL.nil ?_
    refine AW.kq [1, 3, 4, 5, 28] (h := ?_)
    repeat refine AW.seq ?_
    refine AW.cond rfl (fun c_ => ?_) (fun c_ => ?_)
    · repeat refine AW.seq ?_
      refine AW.reg ?_
      iterate 12 refine AOL.s1 (h := ?_)
      refine AOL.nil ?_
      refine AW.kq [2] (h := ?_)
      repeat refine AW.seq ?_
      refine AW.ret ?_
      refine ⟨_, [], rfl, HOk.nil _, ?_⟩
      rfl
    cases c_
  | true =>
  cases xc with
  | false =>
    rw [if_neg (by simp)] at cw
    refine AW.reg ?_
    iterate 1 refine AOL.s1 (h := ?_)
    refine AOL.callD rfl (cw) (by kernel_rfl) rfl rfl (h := ?_)
    iterate 5 refine AOL.s1 (h := ?_)
    refine AOL.nil ?_
    refine AW.kq [1, 3, 4, 5] (h := ?_)
    repeat refine AW.seq ?_
    refine AW.reg ?_
    iterate 2 refine AOL.s1 (h := ?_)
    refine AOL.callD rfl (ia) (by kernel_rfl) rfl rfl (h := ?_)
    iterate 4 refine AOL.s1 (h := ?_)
    refine AOL.callD rfl (ib) (by kernel_rfl) rfl rfl (h := ?_)
    iterate 5 refine AOL.s1 (h := ?_)
    refine AOL.callD rfl (ic) (by kernel_rfl) rfl rfl (h := ?_)
    iterate 2 refine AOL.s1 (h := ?_)
    refine AOL.nil ?_
    refine AW.kq [1, 3, 4, 5, 28] (h := ?_)
    repeat refine AW.seq ?_
    refine AW.cond rfl (fun c_ => ?_) (fun c_ => ?_)
    · repeat refine AW.seq ?_
      refine AW.reg ?_
      iterate 12 refine AOL.s1 (h := ?_)
      refine AOL.nil ?_
      refine AW.kq [2] (h := ?_)
      repeat refine AW.seq ?_
      refine AW.ret ?_
      refine ⟨_, [], rfl, HOk.nil _, ?_⟩
      rfl
    cases c_
  | true =>
  rw [if_pos (by rfl)] at cw
  refine AW.reg ?_
  iterate 1 refine AOL.s1 (h := ?_)
  refine AOL.callD rfl (cw) (by kernel_rfl) rfl rfl (h := ?_)
  iterate 5 refine AOL.s1 (h := ?_)
  refine AOL.nil ?_
  refine AW.kq [1, 3, 4, 5] (h := ?_)
  repeat refine AW.seq ?_
  refine AW.reg ?_
  iterate 2 refine AOL.s1 (h := ?_)
  refine AOL.callD rfl (ia) (by kernel_rfl) rfl rfl (h := ?_)
  iterate 4 refine AOL.s1 (h := ?_)
  refine AOL.callD rfl (ib) (by kernel_rfl) rfl rfl (h := ?_)
  iterate 5 refine AOL.s1 (h := ?_)
  refine AOL.callD rfl (ic) (by kernel_rfl) rfl rfl (h := ?_)
  iterate 2 refine AOL.s1 (h := ?_)
  refine AOL.nil ?_
  refine AW.kq [1, 3, 4, 5, 28] (h := ?_)
  repeat refine AW.seq ?_
  refine AW.cond rfl (fun c_ => ?_) (fun c_ => ?_)
  · cases c_
  refine AW.skip ?_
  repeat refine AW.seq ?_
  refine AW.da 12 (by kernel_rfl) (h := ?_)
  refine ADP.emp (h := ?_)
  iterate 2 refine ADP.d1 (h := ?_)
  refine ADP.call rfl (ya) (by kernel_rfl) rfl rfl (h := ?_)
  refine ADP.app0 1704 (h := ?_)
  iterate 2 refine ADP.d1 (h := ?_)
  refine ADP.call rfl (yb) (by kernel_rfl) rfl rfl (h := ?_)
  refine ADP.app 1704 (h := ?_)
  iterate 2 refine ADP.d1 (h := ?_)
  refine ADP.call rfl (yc) (by kernel_rfl) rfl rfl (h := ?_)
  refine ADP.done2 hmix (by kernel_rfl) (by kernel_rfl) rfl (hT := ?_)
  iterate 2 refine AOL.s1 (h := ?_)
  refine AOL.nil ?_
  refine AW.kq [3, 4, 5, 6] (h := ?_)
  have eL : (A ++ B ++ C).length = A.length + B.length + C.length := by simp [Nat.add_assoc]
  rw [show by8 A ++ by8 B ++ by8 C = by8 (A ++ B ++ C) by rw [by8_app, by8_app], ← eL]
  clear eL f4 f3 f2 f1
  generalize A ++ B ++ C = D at *
  repeat refine AW.seq ?_
  refine AW.reg ?_
  iterate 13 refine AOL.s1 (h := ?_)
  refine AOL.nil ?_
  refine AW.kq [2] (h := ?_)
  repeat refine AW.seq ?_
  refine AW.ret ?_
  refine ⟨_, [], rfl, HOk.nil _, ?_⟩
  rfl
end Go.Proofs.Ytdbpjegocmdplaa.E.M

