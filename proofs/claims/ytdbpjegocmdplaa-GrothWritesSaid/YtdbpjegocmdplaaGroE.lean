/- A proof of bytes: a contract over E. -/
import Derived.Test.YtdbpjegocmdplaaGroD
import Derived.Test.YtdbpjegocmdplaaProg
import Derived.KernelRfl
set_option linter.unusedVariables false
set_option linter.unusedSimpArgs false
set_option maxRecDepth 10000
open Go Go.Proofs.Ytdbpjegocmdplaa.E Go.Proofs
namespace Go.Proofs.Ytdbpjegocmdplaa.E.M
def szR (r : List Int) : Nat := if r.head? = some 1 then 17 else 1
theorem readC_eq (L : List Int) : readC L = .tup [pt (readP L).1, er_ (readP L).2 3] := by
  unfold readC readP
  by_cases h : L = [0]
  · rw [if_pos h, if_pos h]
  · rw [if_neg h, if_neg h]
    by_cases h2 : L.length = 17 ∧ L.head? = some 1
    · rw [if_pos h2, if_pos h2]
      by_cases h3 : isPt false (num (L.drop 1)) (num (L.drop 9)) = true
      · rw [if_pos h3, if_pos h3]
      · rw [if_neg h3, if_neg h3]
    · rw [if_neg h2, if_neg h2]
theorem readP_w {L : List Int} (hb : ∀ b ∈ L, b8 b) : wP3 (readP L).1 := by
  have z : wP3 (false, 0, 0) := ⟨by decide, by decide⟩
  unfold readP
  by_cases h : L = [0]
  · rw [if_pos h]; exact ⟨by decide, by decide⟩
  · rw [if_neg h]
    by_cases h2 : L.length = 17 ∧ L.head? = some 1
    · rw [if_pos h2]
      by_cases h3 : isPt false (num (L.drop 1)) (num (L.drop 9)) = true
      · rw [if_pos h3]; exact ⟨num_w fun b h => hb b (List.mem_of_mem_drop h), num_w fun b h => hb b (List.mem_of_mem_drop h)⟩
      · rw [if_neg h3]; exact z
    · rw [if_neg h2]; exact z
def oneR (r : List Int) : Option (P3 × List Int) :=
  if r.length < szR r then none else
  match readP (r.take (szR r)) with
  | (a, true) => if inG a = true then some (a, r.drop (szR r)) else none
  | (_, false) => none
def failR : AV := .tup [pf (false, 0, 0) (false, 0, 0) (false, 0, 0), er 3]
def fromR : Nat → Nat → P3 → P3 → P3 → List Int → AV
  | 0, _, x, y, z, r => if r = [] then .tup [pf x y z, nil_] else failR
  | k + 1, j, x, y, z, r => match oneR r with
    | none => failR
    | some (a, r') => fromR k (j + 1) (if j = 0 then a else x) (if j = 1 then a else y) (if j = 2 then a else z) r'
def readG (b : List Int) : AV := fromR 3 0 (false, 0, 0) (false, 0, 0) (false, 0, 0) b
theorem sl_hd {L : List Int} {k : Nat} (hk : k ≤ L.length) : ∀ H, aSlice Try.prog 48 H (.sl L.length (by8 L)) none (some (i k)) none = some (.sl (L.take k).length (by8 (L.take k))) := by
  intro H
  have hs : tSlice Try.prog 48 = some 5 := rfl
  have hz : tSz Try.prog 5 = some 1 := rfl
  have c1 : ((0:Int) ≤ (k : Int)) = True := by simp
  have c2 : ((k : Int) ≤ L.length) = True := by simp; omega
  have c0 : ((0:Int) ≤ 0) = True := by simp
  have e : (by8 L).take k = by8 (L.take k) := by8_take L k
  have l : (L.take k).length = k := by rw [List.length_take]; omega
  simp only [aSlice, hs, hz, bnd, intOf?, c0, c1, c2, and_self, true_and, if_true, Int.toNat_natCast, Int.toNat_zero, Nat.mul_one, Nat.zero_mul, List.drop_zero, Nat.sub_zero, e, l]
set_option maxHeartbeats 16000000 in
theorem groth_Read_c {b : List Int} (hb : ∀ v ∈ b, b8 v) (lb : b.length < 140737488355328) : Fn Try.prog 15 [.sl b.length (by8 b)] [] (fun r h_ => r = readG b) := by
  refine Fn.enter Try.func15 Try.ntmps15 rfl (h := ?_)
  have tf := tf
  have ot_ : (false || true) = true := rfl
  have tfg := tfg
  have tfb := tfb
  have i3 : (3 : Nat) = 3 := rfl
  repeat refine AW.seq ?_
  refine AW.reg ?_
  iterate 2 refine AOL.s1 (h := ?_)
  refine AOL.nil ?_
  refine AW.kq [0, 2] (h := ?_)
  repeat refine AW.seq ?_
  refine AW.reg ?_
  iterate 1 refine AOL.s1 (h := ?_)
  refine AOL.nil ?_
  refine AW.kq [0, 2, 4] (h := ?_)
  repeat refine AW.seq ?_
  refine AW.reg ?_
  iterate 1 refine AOL.s1 (h := ?_)
  refine AOL.nil ?_
  refine AW.kq [0, 2, 4, 9] (h := ?_)
  repeat refine AW.seq ?_
  refine AW.block ?_
  repeat refine AW.seq ?_
  refine AW.loopK [0, 2, 4, 9] (fun n s => ∃ (j : Nat) (x y z : P3) (r : List Int), s = ⟨62, [(0, .sl r.length (by8 r)), (2, .ptr 1032 0), (4, .ptr 1064 0), (9, i j)], [(1032, ⟨43, true, [bo false, u 0, u 0, bo false, u 0, u 0, bo false, u 0, u 0]⟩), (1064, ⟨85, true, pfc x y z⟩)]⟩ ∧ j ≤ 3 ∧ n = 3 - j ∧ (∀ v ∈ r, b8 v) ∧ r.length < 140737488355328 ∧ fromR (3 - j) j x y z r = readG b) (3) ?_ ?_
  · exact ⟨0, _, _, _, b, rfl, Nat.zero_le _, rfl, hb, lb, rfl⟩
  rintro n s ⟨j, x, y, z, r, rfl, hj, rfl, hr, lr, hf⟩
  repeat refine AW.seq ?_
  refine AW.reg ?_
  iterate 1 refine AOL.s1 (h := ?_)
  refine AOL.nil ?_
  refine AW.kq [0, 2, 4, 9, 10] (h := ?_)
  repeat refine AW.seq ?_
  refine AW.cond rfl (fun c_ => ?_) (fun c_ => ?_)
  · have hj3 : j < 3 := by have : (j:Int) < 3 := by simpa using c_
                           omega
    obtain ⟨k, hk⟩ : ∃ k, 3 - j = k + 1 := ⟨2 - j, by omega⟩
    rw [hk] at hf
    simp only [fromR] at hf
    cases r with
    | nil =>
      have hz : oneR [] = none := rfl
      rw [hz] at hf
      rw [← hf]
      clear hf hk hj hj3 c_
      have bn : by8 [] = [] := rfl
      refine AW.skip ?_
      repeat refine AW.seq ?_
      refine AW.block ?_
      repeat refine AW.seq ?_
      refine AW.reg ?_
      iterate 2 refine AOL.s1 (h := ?_)
      refine AOL.nil ?_
      refine AW.kq [0, 2, 4, 5, 9] (h := ?_)
      repeat refine AW.seq ?_
      refine AW.reg ?_
      iterate 1 refine AOL.s1 (h := ?_)
      refine AOL.nil ?_
      refine AW.kq [0, 2, 4, 5, 6, 9] (h := ?_)
      repeat refine AW.seq ?_
      refine AW.reg ?_
      iterate 9 refine AOL.s1 (h := ?_)
      refine AOL.nil ?_
      refine AW.kq [0, 2, 4, 5, 6, 9, 20] (h := ?_)
      repeat refine AW.seq ?_
      refine AW.cond rfl (fun d_ => ?_) (fun d_ => ?_)
      · cases d_
      refine AW.skip ?_
      repeat refine AW.seq ?_
      refine AW.reg ?_
      iterate 4 refine AOL.s1 (h := ?_)
      refine AOL.nil ?_
      refine AW.kq [0, 2, 4, 5, 6, 9, 24] (h := ?_)
      repeat refine AW.seq ?_
      refine AW.cond rfl (fun e_ => ?_) (fun e_ => ?_)
      · repeat refine AW.seq ?_
        refine AW.reg ?_
        iterate 4 refine AOL.s1 (h := ?_)
        refine AOL.nil ?_
        refine AW.kq [2, 3] (h := ?_)
        repeat refine AW.seq ?_
        refine AW.ret ?_
        refine ⟨_, [], rfl, HOk.nil _, ?_⟩
        rfl
      cases e_
    | cons a r =>
    have bc : by8 (a :: r) = .val (.int .u8 a) :: by8 r := rfl
    have n0 : (0:Int) ≤ 0 := by decide
    have n1 : (0:Int) < ((r.length + 1 : Nat) : Int) := by omega
    clear c_
    refine AW.skip ?_
    repeat refine AW.seq ?_
    refine AW.block ?_
    repeat refine AW.seq ?_
    refine AW.reg ?_
    iterate 2 refine AOL.s1 (h := ?_)
    refine AOL.nil ?_
    refine AW.kq [0, 2, 4, 5, 9] (h := ?_)
    repeat refine AW.seq ?_
    refine AW.reg ?_
    iterate 1 refine AOL.s1 (h := ?_)
    refine AOL.nil ?_
    refine AW.kq [0, 2, 4, 5, 6, 9] (h := ?_)
    repeat refine AW.seq ?_
    refine AW.reg ?_
    iterate 4 refine AOL.s1 (h := ?_)
    skip
    iterate 5 refine AOL.s1 (h := ?_)
    refine AOL.nil ?_
    refine AW.kq [0, 2, 4, 5, 6, 9, 20] (h := ?_)
    repeat refine AW.seq ?_
    refine AW.midK [0, 2, 4, 5, 6, 9] (fun t => ∃ (m : Nat), t = ⟨62, [(0, .sl (a :: r).length (by8 (a :: r))), (2, .ptr 1032 0), (4, .ptr 1064 0), (5, i j), (6, i m), (9, i j)], [(1032, ⟨43, true, [bo false, u 0, u 0, bo false, u 0, u 0, bo false, u 0, u 0]⟩), (1064, ⟨85, true, pfc x y z⟩)]⟩ ∧ szR (a :: r) = m) ?_ ?_
    · refine AW.cond rfl (fun c_ => ?_) (fun c_ => ?_)
      · skip
        repeat refine AW.seq ?_
        refine AW.reg ?_
        iterate 1 refine AOL.s1 (h := ?_)
        refine AOL.nil ?_
        exact ⟨17, rfl, by have : a = 1 := by simpa using c_
                           subst this; rfl⟩
      · skip
        refine AW.skip ?_
        exact ⟨1, rfl, by have : ¬ a = 1 := by simpa using c_
                          unfold szR; rw [if_neg (by simpa using this)]⟩
    rintro t ⟨m, rfl, hm⟩
    clear bc n1 n0
    generalize a :: r = L at *
    repeat refine AW.seq ?_
    refine AW.reg ?_
    iterate 4 refine AOL.s1 (h := ?_)
    refine AOL.nil ?_
    refine AW.kq [0, 2, 4, 5, 6, 9, 24] (h := ?_)
    repeat refine AW.seq ?_
    refine AW.cond rfl (fun d_ => ?_) (fun d_ => ?_)
    · have dl : (L.length:Int) < m := by simpa using d_
      have hn : oneR L = none := by unfold oneR; rw [if_pos (by rw [hm]; omega)]
      rw [hn] at hf
      rw [← hf]
      repeat refine AW.seq ?_
      refine AW.reg ?_
      iterate 4 refine AOL.s1 (h := ?_)
      refine AOL.nil ?_
      refine AW.kq [2, 3] (h := ?_)
      repeat refine AW.seq ?_
      refine AW.ret ?_
      refine ⟨_, [], rfl, HOk.nil _, ?_⟩
      rfl
    have ge : m ≤ L.length := by have : ¬ (L.length:Int) < m := by simpa using d_
                                 omega
    have ho : oneR L = (match readP (L.take m) with | (a, true) => if inG a = true then some (a, L.drop m) else none | (_, false) => none) := by
      unfold oneR; rw [hm, if_neg (by omega)]
    have cR := curve_Read_c (L := L.take m) (fun b h => hr b (List.mem_of_mem_take h)) (by rw [List.length_take]; omega)
    have wR := readP_w (L := L.take m) (fun b h => hr b (List.mem_of_mem_take h))
    rw [readC_eq] at cR
    rw [ho] at hf
    clear ho
    have sh := sl_hd ge
    have sd := sl_at (L := L) rfl ge
    have hr' : ∀ v ∈ L.drop m, b8 v := fun v h => hr v (List.mem_of_mem_drop h)
    have lr' : (L.drop m).length < 140737488355328 := by rw [List.length_drop]; omega
    have ld : L.length - m = (L.drop m).length := by rw [List.length_drop]
    rw [ld] at sd
    clear ld hm ge d_ hr lr
    generalize readP (L.take m) = q at *
    generalize L.take m = Lt at *
    generalize L.drop m = Ld at *
    obtain ⟨⟨q0, q1, q2⟩, o⟩ := q
    cases o with
    | false =>
      have cR : Fn Try.prog 44 [.sl Lt.length (by8 Lt)] [] (fun r _ => r = .tup [pt (q0, q1, q2), er 3]) := cR
      have hf : failR = readG b := hf
      rw [← hf]
      refine AW.skip ?_
      repeat refine AW.seq ?_
      refine AW.reg ?_
      iterate 3 refine AOL.s1 (h := ?_)
      refine AOL.callD rfl (cR) (by kernel_rfl) rfl rfl (h := ?_)
      iterate 6 refine AOL.s1 (h := ?_)
      refine AOL.nil ?_
      refine AW.kq [0, 2, 4, 5, 6, 7, 8, 9] (h := ?_)
      repeat refine AW.seq ?_
      refine AW.reg ?_
      iterate 7 refine AOL.s1 (h := ?_)
      refine AOL.nil ?_
      refine AW.kq [0, 2, 4, 5, 6, 7, 9, 40] (h := ?_)
      repeat refine AW.seq ?_
      refine AW.cond rfl (fun e_ => ?_) (fun e_ => ?_)
      · repeat refine AW.seq ?_
        refine AW.reg ?_
        iterate 4 refine AOL.s1 (h := ?_)
        refine AOL.nil ?_
        refine AW.kq [2, 3] (h := ?_)
        repeat refine AW.seq ?_
        refine AW.ret ?_
        refine ⟨_, [], rfl, HOk.nil _, ?_⟩
        rfl
      cases e_
    | true =>
    have cR : Fn Try.prog 44 [.sl Lt.length (by8 Lt)] [] (fun r _ => r = .tup [pt (q0, q1, q2), nil_]) := cR
    have cI := curve_In_c (b := q0) wR.1 wR.2
    have hf : (match (if inP q0 q1 q2 = true then some ((q0, q1, q2), Ld) else none) with | none => failR | some (a, r') => fromR k (j + 1) (if j = 0 then a else x) (if j = 1 then a else y) (if j = 2 then a else z) r') = readG b := hf
    generalize inP q0 q1 q2 = w at *
    refine AW.skip ?_
    repeat refine AW.seq ?_
    refine AW.reg ?_
    iterate 3 refine AOL.s1 (h := ?_)
    refine AOL.callD rfl (cR) (by kernel_rfl) rfl rfl (h := ?_)
    iterate 6 refine AOL.s1 (h := ?_)
    refine AOL.nil ?_
    refine AW.kq [0, 2, 4, 5, 6, 7, 8, 9] (h := ?_)
    repeat refine AW.seq ?_
    refine AW.reg ?_
    iterate 4 refine AOL.s1 (h := ?_)
    refine AOL.callD rfl (cI) (by kernel_rfl) rfl rfl (h := ?_)
    iterate 2 refine AOL.s1 (h := ?_)
    refine AOL.nil ?_
    refine AW.kq [0, 2, 4, 5, 6, 7, 9, 40] (h := ?_)
    repeat refine AW.seq ?_
    refine AW.cond rfl (fun e_ => ?_) (fun e_ => ?_)
    · have hw : w = false := by simpa using e_
      rw [hw] at hf
      have hf : failR = readG b := hf
      rw [← hf]
      repeat refine AW.seq ?_
      refine AW.reg ?_
      iterate 4 refine AOL.s1 (h := ?_)
      refine AOL.nil ?_
      refine AW.kq [2, 3] (h := ?_)
      repeat refine AW.seq ?_
      refine AW.ret ?_
      refine ⟨_, [], rfl, HOk.nil _, ?_⟩
      rfl
    have hw : w = true := by simpa using e_
    rw [hw, if_pos rfl] at hf
    simp only at hf
    clear e_ hw cI cR
    refine AW.skip ?_
    repeat refine AW.seq ?_
    obtain ⟨x0, x1, x2⟩ := x
    obtain ⟨y0, y1, y2⟩ := y
    obtain ⟨z0, z1, z2⟩ := z
    rcases (show j = 0 ∨ j = 1 ∨ j = 2 by omega) with rfl | rfl | rfl
    · have hk : k = 2 := by omega
      subst hk
      have hf : fromR 2 1 (q0, q1, q2) (y0, y1, y2) (z0, z1, z2) Ld = readG b := hf
      clear hj hj3 wR
      have jz : decide (((0 : Nat) : Int) < ((3 : Nat) : Int)) = true := by decide
      have jz0 : (0:Int) ≤ ((0 : Nat) : Int) := by decide
      have jz1 : ((0 : Nat) : Int) < ((3 : Nat) : Int) := by decide
      have jz2 : ((0 : Nat) : Int) < 3 := by decide
      have jn : IntKind.i64.wrap (((0 : Nat) : Int) + 1) = ((1 : Nat) : Int) := by decide
      refine AW.dw [(6, 1064, ⟨85, true, pfc (q0, q1, q2) (y0, y1, y2) (z0, z1, z2)⟩)] 7 [] (by kernel_rfl) (h := ?_)
      iterate 6 refine ADLW.d1 (h := ?_)
      refine ADLW.st (h := ?_)
      refine ADLW.fin hmix rfl rfl rfl rfl (hT := ?_)
      iterate 1 refine AOL.s1 (h := ?_)
      refine AOL.nil ?_
      repeat refine AW.seq ?_
      refine AW.let 1112 (h := ?_)
      refine AW.reg ?_
      iterate 2 refine AOL.s1 (h := ?_)
      refine AOL.nil ?_
      exact ⟨2, by omega, 1, _, _, _, Ld, rfl, by decide, rfl, hr', lr', hf⟩
    · have hk : k = 1 := by omega
      subst hk
      have hf : fromR 1 2 (x0, x1, x2) (q0, q1, q2) (z0, z1, z2) Ld = readG b := hf
      clear hj hj3 wR
      have jz : decide (((1 : Nat) : Int) < ((3 : Nat) : Int)) = true := by decide
      have jz0 : (0:Int) ≤ ((1 : Nat) : Int) := by decide
      have jz1 : ((1 : Nat) : Int) < ((3 : Nat) : Int) := by decide
      have jz2 : ((1 : Nat) : Int) < 3 := by decide
      have jn : IntKind.i64.wrap (((1 : Nat) : Int) + 1) = ((2 : Nat) : Int) := by decide
      refine AW.dw [(6, 1064, ⟨85, true, pfc (x0, x1, x2) (q0, q1, q2) (z0, z1, z2)⟩)] 7 [] (by kernel_rfl) (h := ?_)
      iterate 6 refine ADLW.d1 (h := ?_)
      refine ADLW.st (h := ?_)
      refine ADLW.fin hmix rfl rfl rfl rfl (hT := ?_)
      iterate 1 refine AOL.s1 (h := ?_)
      refine AOL.nil ?_
      repeat refine AW.seq ?_
      refine AW.let 1112 (h := ?_)
      refine AW.reg ?_
      iterate 2 refine AOL.s1 (h := ?_)
      refine AOL.nil ?_
      exact ⟨1, by omega, 2, _, _, _, Ld, rfl, by decide, rfl, hr', lr', hf⟩
    · have hk : k = 0 := by omega
      subst hk
      have hf : fromR 0 3 (x0, x1, x2) (y0, y1, y2) (q0, q1, q2) Ld = readG b := hf
      clear hj hj3 wR
      have jz : decide (((2 : Nat) : Int) < ((3 : Nat) : Int)) = true := by decide
      have jz0 : (0:Int) ≤ ((2 : Nat) : Int) := by decide
      have jz1 : ((2 : Nat) : Int) < ((3 : Nat) : Int) := by decide
      have jz2 : ((2 : Nat) : Int) < 3 := by decide
      have jn : IntKind.i64.wrap (((2 : Nat) : Int) + 1) = ((3 : Nat) : Int) := by decide
      refine AW.dw [(6, 1064, ⟨85, true, pfc (x0, x1, x2) (y0, y1, y2) (q0, q1, q2)⟩)] 7 [] (by kernel_rfl) (h := ?_)
      iterate 6 refine ADLW.d1 (h := ?_)
      refine ADLW.st (h := ?_)
      refine ADLW.fin hmix rfl rfl rfl rfl (hT := ?_)
      iterate 1 refine AOL.s1 (h := ?_)
      refine AOL.nil ?_
      repeat refine AW.seq ?_
      refine AW.let 1112 (h := ?_)
      refine AW.reg ?_
      iterate 2 refine AOL.s1 (h := ?_)
      refine AOL.nil ?_
      exact ⟨0, by omega, 3, _, _, _, Ld, rfl, by decide, rfl, hr', lr', hf⟩
  · have hj : j = 3 := by have : ¬ (j:Int) < 3 := by simpa using c_
                          omega
    subst hj
    have hf : (if r = [] then .tup [pf x y z, nil_] else failR) = readG b := hf
    clear c_
    repeat refine AW.seq ?_
    refine AW.exit ?_
    repeat (first | refine Kseq.ex ?_ | refine Kloop.ex ?_ | refine Kblock.miss (by decide) ?_)
    refine Kblock.hit ?_
    refine AW.kq [0, 2, 4] (h := ?_)
    repeat refine AW.seq ?_
    refine AW.reg ?_
    iterate 3 refine AOL.s1 (h := ?_)
    refine AOL.nil ?_
    refine AW.kq [2, 4, 52] (h := ?_)
    repeat refine AW.seq ?_
    refine AW.cond rfl (fun e_ => ?_) (fun e_ => ?_)
    · have hr0 : ¬ r = [] := by
        intro h; rw [h] at e_; cases e_
      rw [if_neg hr0] at hf
      rw [← hf]
      repeat refine AW.seq ?_
      refine AW.reg ?_
      iterate 4 refine AOL.s1 (h := ?_)
      refine AOL.nil ?_
      refine AW.kq [2, 3] (h := ?_)
      repeat refine AW.seq ?_
      refine AW.ret ?_
      refine ⟨_, [], rfl, HOk.nil _, ?_⟩
      rfl
    have hr0 : r = [] := by
      cases r with
      | nil => rfl
      | cons a r => simp at e_
    rw [if_pos hr0] at hf
    rw [← hf]
    refine AW.skip ?_
    repeat refine AW.seq ?_
    refine AW.reg ?_
    iterate 9 refine AOL.s1 (h := ?_)
    refine AOL.nil ?_
    refine AW.kq [2, 3] (h := ?_)
    repeat refine AW.seq ?_
    refine AW.ret ?_
    refine ⟨_, [], rfl, HOk.nil _, ?_⟩
    rfl
end Go.Proofs.Ytdbpjegocmdplaa.E.M

