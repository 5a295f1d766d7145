/- The statement GrothReads over E. -/
import Derived.Test.YtdbpjegocmdplaaGroI
import Derived.Test.YtdbpjegocmdplaaProg
import Derived.KernelRfl
set_option linter.unusedVariables false
set_option linter.unusedSimpArgs false
set_option maxRecDepth 10000
open Go Go.Proofs.Ytdbpjegocmdplaa.E Go.Proofs
namespace Go.Proofs.Ytdbpjegocmdplaa.E.M
def fromQ : Nat → Nat → P3 → P3 → P3 → List Int → Option (P3 × P3 × P3)
  | 0, _, x, y, z, r => if r = [] then some (x, y, z) else none
  | k + 1, j, x, y, z, r => match oneR r with
    | none => none
    | some (a, r') => fromQ k (j + 1) (if j = 0 then a else x) (if j = 1 then a else y) (if j = 2 then a else z) r'
def qR : Option (P3 × P3 × P3) → AV
  | none => failR
  | some (x, y, z) => .tup [pf x y z, nil_]
theorem fromR_Q : ∀ (k j : Nat) (x y z : P3) (r : List Int), fromR k j x y z r = qR (fromQ k j x y z r)
  | 0, j, x, y, z, r => by
    simp only [fromR, fromQ]
    split <;> rfl
  | k + 1, j, x, y, z, r => by
    simp only [fromR, fromQ]
    cases oneR r with
    | none => rfl
    | some p => obtain ⟨a, r'⟩ := p; exact fromR_Q k (j + 1) _ _ _ r'
theorem eqPf : eqT Try.prog 43 = some [.bool, .int, .int, .bool, .int, .int, .bool, .int, .int] := eqT_of (by kernel_rfl) (by kernel_rfl) (by kernel_rfl)
theorem pfc_len (x y z : P3) : (pfc x y z).length = 9 := rfl
theorem appr {f : Nat} (h : f ≤ 3) : (f + 1) * 24 ≤ 140737488355328 ∧ f + 1 ≤ 4611686018427387904 ∧ f ≤ 4611686018427387903 := by omega
set_option maxHeartbeats 40000000 in
theorem groj_loop {b : List Int} {Q : Option (P3 × P3 × P3)} {ev : Value} {X Y Z : P3} (hb : ∀ v ∈ b, b8 v) (lb : b.length < 140737488355328) (hQ : fromQ 3 0 (false, 0, 0) (false, 0, 0) (false, 0, 0) b = Q) (cr : Fn Try.prog 15 [sl8 b] [] (fun r _ => r = .tup [pf X Y Z, .val ev]))
    (hN : Q = none → ev = (.iface 52 (.int .i64 3)) ∧ (X, Y, Z) = ((false, 0, 0), (false, 0, 0), (false, 0, 0))) (hS : ∀ x y z, Q = some (x, y, z) → ev = .nilIface ∧ (X, Y, Z) = (x, y, z)) : Fn Try.prog 5 [sl8 b] [] (fun r _ => r = bo true) := by
  have cu := obollaw15_up_c
  obtain ⟨X0, X1, X2⟩ := X
  obtain ⟨Y0, Y1, Y2⟩ := Y
  obtain ⟨Z0, Z1, Z2⟩ := Z
  refine Fn.enter Try.func5 Try.ntmps5 rfl (h := ?_)
  have tf := tf
  have tfb := tfb
  have tfl := tfl
  have tfg := tfg
  have eqPf := eqPf
  have ot_ : (false || true) = true := rfl
  have nt : (!true) = false := rfl
  have nf : (!false) = true := rfl
  replace hN := hid hN
  replace hS := hid hS
  replace hQ := hid hQ
  repeat refine AW.seq ?_
  refine AW.reg ?_
  iterate 1 refine AOL.s1 (h := ?_)
  refine AOL.nil ?_
  refine AW.kq [0] (h := ?_)
  repeat refine AW.seq ?_
  refine AW.reg ?_
  refine AOL.callD rfl (cu) (by kernel_rfl) rfl rfl (h := ?_)
  iterate 1 refine AOL.s1 (h := ?_)
  refine AOL.nil ?_
  refine AW.kq [0, 3] (h := ?_)
  repeat refine AW.seq ?_
  refine AW.reg ?_
  iterate 1 refine AOL.s1 (h := ?_)
  refine AOL.callD rfl (cr) (by kernel_rfl) rfl rfl (h := ?_)
  iterate 6 refine AOL.s1 (h := ?_)
  refine AOL.nil ?_
  refine AW.kq [0, 3, 4, 5] (h := ?_)
  repeat refine AW.seq ?_
  refine AW.reg ?_
  iterate 2 refine AOL.s1 (h := ?_)
  refine AOL.nil ?_
  refine AW.kq [3, 4, 5, 6] (h := ?_)
  repeat refine AW.seq ?_
  refine AW.reg ?_
  iterate 1 refine AOL.s1 (h := ?_)
  refine AOL.nil ?_
  refine AW.kq [3, 4, 5, 6, 7] (h := ?_)
  refine AW.born 7 9001 32 3 (.inl rfl) (h := ?_)
  repeat refine AW.seq ?_
  refine AW.reg ?_
  iterate 1 refine AOL.s1 (h := ?_)
  refine AOL.nil ?_
  refine AW.kq [3, 4, 5, 6, 7, 8] (h := ?_)
  repeat refine AW.seq ?_
  refine AW.reg ?_
  iterate 1 refine AOL.s1 (h := ?_)
  refine AOL.nil ?_
  refine AW.kq [3, 4, 5, 6, 7, 8, 9] (h := ?_)
  repeat refine AW.seq ?_
  refine AW.midK [3, 4, 5, 6, 7, 8] (fun t => ∃ (m : Nat) (r : List Int) (f : Bool) (cL : List AV), t = ⟨98, [(3, bo true), (4, .ptr 1064 0), (5, .val ev), (6, .sl r.length (by8 r)), (7, .ref 9001 0 m 3), (8, bo f)], [(1064, ⟨43, true, pfc (X0, X1, X2) (Y0, Y1, Y2) (Z0, Z1, Z2)⟩), (9001, ⟨32, false, cL⟩)]⟩ ∧ (f = false → Q = none) ∧ (f = true → ∃ x y z, (if r = [] then some (x, y, z) else none) = Q ∧ cL = pfc x y z ∧ m = 3)) ?_ ?_
  · refine AW.block ?_
    repeat refine AW.seq ?_
    refine AW.loopK [3, 4, 5, 6, 7, 8, 9] (fun n' s => ∃ (j m : Nat) (r : List Int) (f : Bool) (cL : List AV), s = ⟨98, [(3, bo true), (4, .ptr 1064 0), (5, .val ev), (6, .sl r.length (by8 r)), (7, .ref 9001 0 m 3), (8, bo f), (9, i j)], [(1064, ⟨43, true, pfc (X0, X1, X2) (Y0, Y1, Y2) (Z0, Z1, Z2)⟩), (9001, ⟨32, false, cL⟩)]⟩ ∧ j ≤ 3 ∧ n' = 3 - j ∧ (∀ v ∈ r, b8 v) ∧ r.length < 140737488355328 ∧ (f = false → Q = none) ∧ (f = true → m = j ∧ ∃ x y z, fromQ (3 - j) j x y z r = Q ∧ cL = (pfc x y z).take (j * 3))) 3 ?_ ?_
    · exact ⟨0, 0, b, true, [], rfl, Nat.zero_le _, rfl, hb, lb, (fun h => by cases h), fun _ => ⟨rfl, _, _, _, hQ, rfl⟩⟩
    rintro n' s ⟨j, m, r, f, cL, rfl, hj, rfl, hr, lr, h0, h1⟩
    by_cases h3 : j < 3
    rotate_left
    · have hd : decide ((j:Int) < 3) = false := decide_eq_false (by omega)
      repeat refine AW.seq ?_
      refine AW.reg ?_
      iterate 5 refine AOL.s1 (h := ?_)
      refine AOL.nil ?_
      refine AW.kq [3, 4, 5, 6, 7, 8, 9, 24] (h := ?_)
      repeat refine AW.seq ?_
      refine AW.cond rfl (fun c_ => ?_) (fun c_ => ?_)
      · cases c_
      repeat refine AW.seq ?_
      refine AW.exit ?_
      repeat (first | refine Kseq.ex ?_ | refine Kloop.ex ?_ | refine Kblock.miss (by decide) ?_)
      refine Kblock.hit ?_
      refine ⟨m, r, f, cL, rfl, h0, fun hf => ?_⟩
      obtain ⟨rfl, x, y, z, h4, h5⟩ := h1 hf
      obtain rfl : m = 3 := by omega
      exact ⟨x, y, z, h4, by rw [h5]; rfl, rfl⟩
    have hd : decide ((j:Int) < 3) = true := decide_eq_true (by omega)
    cases f with
    | false =>
      have hQ0 := hid (h0 rfl)
      clear h0 h1
      repeat refine AW.seq ?_
      refine AW.reg ?_
      iterate 5 refine AOL.s1 (h := ?_)
      refine AOL.nil ?_
      refine AW.kq [3, 4, 5, 6, 7, 8, 9, 24] (h := ?_)
      repeat refine AW.seq ?_
      refine AW.cond rfl (fun c_ => ?_) (fun c_ => ?_)
      · cases c_
      repeat refine AW.seq ?_
      refine AW.exit ?_
      repeat (first | refine Kseq.ex ?_ | refine Kloop.ex ?_ | refine Kblock.miss (by decide) ?_)
      refine Kblock.hit ?_
      exact ⟨m, r, false, cL, rfl, fun _ => hQ0, fun h => by cases h⟩
    | true =>
    obtain ⟨rfl, x, y, z, h4, h5⟩ := h1 rfl
    obtain ⟨k, hk⟩ : ∃ k, 3 - m = k + 1 := ⟨2 - m, by omega⟩
    rw [hk] at h4
    simp only [fromQ] at h4
    have lcL : cL.length = m * 3 := by rw [h5, List.length_take, pfc_len]; omega
    have jw := incq h3 (by decide)
    have ⟨b1, b2, b3⟩ := appr (f := m) hj
    clear h0 h1
    replace h5 := hid h5
    replace hk := hid hk
    repeat refine AW.seq ?_
    refine AW.reg ?_
    iterate 5 refine AOL.s1 (h := ?_)
    refine AOL.nil ?_
    refine AW.kq [3, 4, 5, 6, 7, 8, 9, 24] (h := ?_)
    repeat refine AW.seq ?_
    refine AW.cond rfl (fun c_ => ?_) (fun c_ => ?_)
    rotate_left
    · cases c_
    clear c_ hd
    refine AW.skip ?_
    repeat refine AW.seq ?_
    refine AW.block ?_
    repeat refine AW.seq ?_
    refine AW.reg ?_
    iterate 1 refine AOL.s1 (h := ?_)
    refine AOL.nil ?_
    refine AW.kq [3, 4, 5, 6, 7, 9, 10] (h := ?_)
    repeat refine AW.seq ?_
    cases r with
    | nil =>
      have hz : oneR [] = none := rfl
      rw [hz] at h4
      have hQ0 := hid h4.symm
      clear h4
      have bn : by8 [] = [] := rfl
      refine AW.reg ?_
      iterate 9 refine AOL.s1 (h := ?_)
      refine AOL.nil ?_
      refine AW.kq [3, 4, 5, 6, 7, 9, 10, 35] (h := ?_)
      repeat refine AW.seq ?_
      refine AW.cond rfl (fun d_ => ?_) (fun d_ => ?_)
      · cases d_
      refine AW.skip ?_
      repeat refine AW.seq ?_
      refine AW.reg ?_
      iterate 5 refine AOL.s1 (h := ?_)
      refine AOL.nil ?_
      refine AW.kq [3, 4, 5, 6, 7, 8, 9, 10] (h := ?_)
      repeat refine AW.seq ?_
      refine AW.reg ?_
      iterate 2 refine AOL.s1 (h := ?_)
      refine AOL.nil ?_
      refine AW.kq [3, 4, 5, 6, 7, 8, 9, 10, 41] (h := ?_)
      repeat refine AW.seq ?_
      refine AW.cond rfl (fun e_ => ?_) (fun e_ => ?_)
      · repeat refine AW.seq ?_
        refine AW.exit ?_
        repeat (first | refine Kseq.ex ?_ | refine Kloop.ex ?_ | refine Kblock.miss (by decide) ?_)
        refine Kblock.hit ?_
        exact ⟨m, [], false, cL, rfl, fun _ => hQ0, fun h => by cases h⟩
      cases e_
    | cons a r =>
    have bc : by8 (a :: r) = .val (.int .u8 a) :: by8 r := rfl
    have n0 : (0:Int) ≤ 0 := by decide
    have n1 : (0:Int) < ((r.length + 1 : Nat) : Int) := by omega
    have n2 : decide (((r.length + 1 : Nat) : Int) > 0) = true := decide_eq_true (by omega)
    refine AW.reg ?_
    iterate 9 refine AOL.s1 (h := ?_)
    refine AOL.nil ?_
    refine AW.kq [3, 4, 5, 6, 7, 9, 10, 35] (h := ?_)
    repeat refine AW.seq ?_
    refine AW.midK [3, 4, 5, 6, 7, 9, 10] (fun t => ∃ (sz : Nat), t = ⟨98, [(3, bo true), (4, .ptr 1064 0), (5, .val ev), (6, .sl (a :: r).length (by8 (a :: r))), (7, .ref 9001 0 m 3), (9, i m), (10, i sz)], [(1064, ⟨43, true, pfc (X0, X1, X2) (Y0, Y1, Y2) (Z0, Z1, Z2)⟩), (9001, ⟨32, false, cL⟩)]⟩ ∧ szR (a :: r) = sz) ?_ ?_
    · refine AW.cond rfl (fun d_ => ?_) (fun d_ => ?_)
      · repeat refine AW.seq ?_
        refine AW.reg ?_
        iterate 1 refine AOL.s1 (h := ?_)
        refine AOL.nil ?_
        exact ⟨17, rfl, by have : a = 1 := by simpa using d_
                           subst this; rfl⟩
      · refine AW.skip ?_
        exact ⟨1, rfl, by have : ¬ a = 1 := by simpa using d_
                          unfold szR; rw [if_neg (by simpa using this)]⟩
    rintro t ⟨sz, rfl, hsz⟩
    clear bc n1 n0 n2
    generalize a :: r = L at *
    repeat refine AW.seq ?_
    refine AW.reg ?_
    iterate 5 refine AOL.s1 (h := ?_)
    refine AOL.nil ?_
    refine AW.kq [3, 4, 5, 6, 7, 8, 9, 10] (h := ?_)
    repeat refine AW.seq ?_
    refine AW.reg ?_
    iterate 2 refine AOL.s1 (h := ?_)
    refine AOL.nil ?_
    refine AW.kq [3, 4, 5, 6, 7, 8, 9, 10, 41] (h := ?_)
    repeat refine AW.seq ?_
    by_cases ge : sz ≤ L.length
    rotate_left
    · have hn : oneR L = none := by unfold oneR; rw [if_pos (by rw [hsz]; omega)]
      rw [hn] at h4
      have hQ0 := hid h4.symm
      have hd : decide ((L.length:Int) ≥ sz) = false := decide_eq_false (by omega)
      rw [hd]
      refine AW.cond rfl (fun e_ => ?_) (fun e_ => ?_)
      · repeat refine AW.seq ?_
        refine AW.exit ?_
        repeat (first | refine Kseq.ex ?_ | refine Kloop.ex ?_ | refine Kblock.miss (by decide) ?_)
        refine Kblock.hit ?_
        exact ⟨m, L, false, cL, rfl, fun _ => hQ0, fun h => by cases h⟩
      cases e_
    have hd : decide ((L.length:Int) ≥ sz) = true := decide_eq_true (by omega)
    rw [hd]
    refine AW.cond rfl (fun e_ => ?_) (fun e_ => ?_)
    · cases e_
    clear e_ hd
    refine AW.skip ?_
    repeat refine AW.seq ?_
    have ho : oneR L = (match readP (L.take sz) with | (a, true) => if inG a = true then some (a, L.drop sz) else none | (_, false) => none) := by
      unfold oneR; rw [hsz, if_neg (by omega)]
      rfl
    have cR := obolref03_Read_c (L := L.take sz) (fun b h => hr b (List.mem_of_mem_take h)) (by rw [List.length_take]; omega)
    have wR := readP_w (L := L.take sz) (fun b h => hr b (List.mem_of_mem_take h))
    rw [ho] at h4
    clear ho
    have sh := sl_hd ge
    have sd := sl_at (L := L) rfl ge
    have hr' : ∀ v ∈ L.drop sz, b8 v := fun v h => hr v (List.mem_of_mem_drop h)
    have lr' : (L.drop sz).length < 140737488355328 := by rw [List.length_drop]; omega
    have ld : L.length - sz = (L.drop sz).length := by rw [List.length_drop]
    rw [ld] at sd
    clear ld hsz ge hr lr
    generalize readP (L.take sz) = q at *
    generalize L.take sz = Lt at *
    generalize L.drop sz = Ld at *
    obtain ⟨⟨q0, q1, q2⟩, o⟩ := q
    have cI := obolref03_In_c (b := q0) wR.1 wR.2
    refine AW.reg ?_
    iterate 3 refine AOL.s1 (h := ?_)
    refine AOL.callD rfl (cR) (by kernel_rfl) rfl rfl (h := ?_)
    iterate 6 refine AOL.s1 (h := ?_)
    refine AOL.nil ?_
    refine AW.kq [3, 4, 5, 6, 7, 9, 10, 11, 12] (h := ?_)
    repeat refine AW.seq ?_
    cases o with
    | false =>
      have hQ0 : Hid (Q = none) := hid (h4.symm : Q = none)
      clear h4
      refine AW.reg ?_
      iterate 6 refine AOL.s1 (h := ?_)
      refine AOL.nil ?_
      refine AW.kq [3, 4, 5, 6, 7, 8, 9, 10, 11] (h := ?_)
      repeat refine AW.seq ?_
      refine AW.reg ?_
      iterate 4 refine AOL.s1 (h := ?_)
      iterate 1 refine AOL.s1 (h := ?_)
      refine AOL.nil ?_
      refine AW.kq [3, 4, 5, 6, 7, 8, 9, 10] (h := ?_)
      repeat refine AW.seq ?_
      refine AW.reg ?_
      iterate 4 refine AOL.s1 (h := ?_)
      refine AOL.nil ?_
      repeat refine AW.seq ?_
      refine AW.let 1176 (h := ?_)
      refine AW.let 1896 (h := ?_)
      refine AW.reg ?_
      iterate 3 refine AOL.s1 (h := ?_)
      refine AOL.nil ?_
      exact ⟨3 - (m + 1), by omega, m + 1, m + 1, Ld, false, _, rfl, h3, rfl, hr', lr', fun _ => hQ0, fun h => by cases h⟩
    | true =>
    have h4 : (match (if inP q0 q1 q2 = true then some ((q0, q1, q2), Ld) else none) with | none => none | some (a, r') => fromQ k (m + 1) (if m = 0 then a else x) (if m = 1 then a else y) (if m = 2 then a else z) r') = Q := h4
    cases w : inP q0 q1 q2 with
    | false =>
      rw [w] at h4 cI
      have hQ0 : Hid (Q = none) := hid (h4.symm : Q = none)
      clear h4 w
      refine AW.reg ?_
      iterate 3 refine AOL.s1 (h := ?_)
      refine AOL.callD rfl (cI) (by kernel_rfl) rfl rfl (h := ?_)
      iterate 2 refine AOL.s1 (h := ?_)
      refine AOL.nil ?_
      refine AW.kq [3, 4, 5, 6, 7, 8, 9, 10, 11] (h := ?_)
      repeat refine AW.seq ?_
      refine AW.reg ?_
      iterate 4 refine AOL.s1 (h := ?_)
      iterate 1 refine AOL.s1 (h := ?_)
      refine AOL.nil ?_
      refine AW.kq [3, 4, 5, 6, 7, 8, 9, 10] (h := ?_)
      repeat refine AW.seq ?_
      refine AW.reg ?_
      iterate 4 refine AOL.s1 (h := ?_)
      refine AOL.nil ?_
      repeat refine AW.seq ?_
      refine AW.let 1176 (h := ?_)
      refine AW.let 1896 (h := ?_)
      refine AW.reg ?_
      iterate 3 refine AOL.s1 (h := ?_)
      refine AOL.nil ?_
      exact ⟨3 - (m + 1), by omega, m + 1, m + 1, Ld, false, _, rfl, h3, rfl, hr', lr', fun _ => hQ0, fun h => by cases h⟩
    | true =>
    rw [w, if_pos rfl] at h4
    rw [w] at cI
    simp only at h4
    replace h4 := hid h4
    clear w
    refine AW.reg ?_
    iterate 3 refine AOL.s1 (h := ?_)
    refine AOL.callD rfl (cI) (by kernel_rfl) rfl rfl (h := ?_)
    iterate 2 refine AOL.s1 (h := ?_)
    refine AOL.nil ?_
    refine AW.kq [3, 4, 5, 6, 7, 8, 9, 10, 11] (h := ?_)
    repeat refine AW.seq ?_
    refine AW.reg ?_
    iterate 4 refine AOL.s1 (h := ?_)
    iterate 1 refine AOL.s1 (h := ?_)
    refine AOL.nil ?_
    refine AW.kq [3, 4, 5, 6, 7, 8, 9, 10] (h := ?_)
    repeat refine AW.seq ?_
    refine AW.reg ?_
    iterate 4 refine AOL.s1 (h := ?_)
    refine AOL.nil ?_
    repeat refine AW.seq ?_
    refine AW.let 1176 (h := ?_)
    refine AW.let 1896 (h := ?_)
    refine AW.reg ?_
    iterate 3 refine AOL.s1 (h := ?_)
    refine AOL.nil ?_
    have hk' : 3 - m = k + 1 := hk
    have e1 : 3 - (m + 1) = k := by omega
    have h5' : cL = (pfc x y z).take (m * 3) := h5
    refine ⟨3 - (m + 1), by omega, m + 1, m + 1, Ld, true, _, rfl, h3, rfl, hr', lr', (fun h => by cases h), fun _ => ⟨rfl, _, _, _, by rw [e1]; exact h4, ?_⟩⟩
    rw [h5']
    rcases (show m = 0 ∨ m = 1 ∨ m = 2 by omega) with rfl | rfl | rfl <;> rfl
  rintro t ⟨m, r, f, cL, rfl, h0, h1⟩
  repeat refine AW.seq ?_
  cases f with
  | false =>
    obtain ⟨rfl, h6⟩ := hN (h0 rfl)
    simp only [Prod.mk.injEq] at h6
    obtain ⟨⟨rfl, rfl, rfl⟩, ⟨rfl, rfl, rfl⟩, rfl, rfl, rfl⟩ := h6
    clear h0 h1 hS hN hQ cr
    refine AW.reg ?_
    iterate 7 refine AOL.s1 (h := ?_)
    refine AOL.nil ?_
    refine AW.kq [3, 4, 5, 7, 67] (h := ?_)
    repeat refine AW.seq ?_
    refine AW.cond rfl (fun c_ => ?_) (fun c_ => ?_)
    · repeat refine AW.seq ?_
      refine AW.reg ?_
      iterate 12 refine AOL.s1 (h := ?_)
      refine AOL.nil ?_
      refine AW.kq [2] (h := ?_)
      repeat refine AW.seq ?_
      refine AW.ret ?_
      refine ⟨_, [], rfl, HOk.nil _, ?_⟩
      rfl
    cases c_
  | true =>
  obtain ⟨x, y, z, h4, h5, rfl⟩ := h1 rfl
  cases r with
  | cons a r =>
    rw [if_neg (by simp)] at h4
    obtain ⟨rfl, h6⟩ := hN h4.symm
    simp only [Prod.mk.injEq] at h6
    obtain ⟨⟨rfl, rfl, rfl⟩, ⟨rfl, rfl, rfl⟩, rfl, rfl, rfl⟩ := h6
    clear h0 h1 hS hN hQ cr h4 h5
    have n2 : decide (((r.length + 1 : Nat) : Int) > 0) = true := decide_eq_true (by omega)
    refine AW.reg ?_
    iterate 7 refine AOL.s1 (h := ?_)
    refine AOL.nil ?_
    refine AW.kq [3, 4, 5, 7, 67] (h := ?_)
    repeat refine AW.seq ?_
    refine AW.cond rfl (fun c_ => ?_) (fun c_ => ?_)
    · repeat refine AW.seq ?_
      refine AW.reg ?_
      iterate 12 refine AOL.s1 (h := ?_)
      refine AOL.nil ?_
      refine AW.kq [2] (h := ?_)
      repeat refine AW.seq ?_
      refine AW.ret ?_
      refine ⟨_, [], rfl, HOk.nil _, ?_⟩
      rfl
    cases c_
  | nil =>
  rw [if_pos rfl] at h4
  obtain ⟨rfl, h6⟩ := hS x y z h4.symm
  obtain ⟨x0, x1, x2⟩ := x
  obtain ⟨y0, y1, y2⟩ := y
  obtain ⟨z0, z1, z2⟩ := z
  simp only [Prod.mk.injEq] at h6
  obtain ⟨⟨rfl, rfl, rfl⟩, ⟨rfl, rfl, rfl⟩, rfl, rfl, rfl⟩ := h6
  subst h5
  clear h0 h1 hS hN hQ cr h4
  have bn : by8 [] = [] := rfl
  have q0 : (0:Int) ≤ 0 := by decide
  have q1 : (0:Int) ≤ 1 := by decide
  have q2 : (0:Int) ≤ 2 := by decide
  have x0_ : (0:Int) < ((3:Nat):Int) := by decide
  have x1_ : (1:Int) < ((3:Nat):Int) := by decide
  have x2_ : (2:Int) < ((3:Nat):Int) := by decide
  have n0 : Int.toNat 0 = 0 := rfl
  have n1 : Int.toNat 1 = 1 := rfl
  have n2 : Int.toNat 2 = 2 := rfl
  refine AW.reg ?_
  iterate 7 refine AOL.s1 (h := ?_)
  refine AOL.nil ?_
  refine AW.kq [3, 4, 5, 7, 67] (h := ?_)
  repeat refine AW.seq ?_
  refine AW.cond rfl (fun c_ => ?_) (fun c_ => ?_)
  · cases c_
  refine AW.skip ?_
  repeat refine AW.seq ?_
  refine AW.drw 17 [] (by kernel_rfl) (h := ?_)
  iterate 17 refine ADL.dm 1 (h := ?_)
  refine ADL.done hmix rfl rfl (hT := ?_)
  iterate 3 refine AOL.s1 (h := ?_)
  refine AOL.nil ?_
  refine AW.kq [2] (h := ?_)
  repeat refine AW.seq ?_
  refine AW.ret ?_
  refine ⟨_, [], rfl, HOk.nil _, ?_⟩
  rfl
theorem obollaw15_GrothReads_c {b : List Int} (hb : ∀ v ∈ b, b8 v) (lb : b.length < 140737488355328) : Fn Try.prog 5 [sl8 b] [] (fun r _ => r = bo true) := by
  have cr := groth_Read_c hb lb
  unfold readG at cr
  rw [fromR_Q] at cr
  generalize hQ : fromQ 3 0 (false, 0, 0) (false, 0, 0) (false, 0, 0) b = Q at *
  cases Q with
  | none => exact groj_loop (ev := .iface 52 (.int .i64 3)) (X := (false, 0, 0)) (Y := (false, 0, 0)) (Z := (false, 0, 0)) hb lb hQ cr (fun _ => ⟨rfl, rfl⟩) (fun x y z h => by cases h)
  | some p =>
    obtain ⟨x, y, z⟩ := p
    exact groj_loop (ev := .nilIface) (X := x) (Y := y) (Z := z) hb lb hQ cr (fun h => by cases h) (fun x' y' z' h => by cases h; exact ⟨rfl, rfl⟩)
end Go.Proofs.Ytdbpjegocmdplaa.E.M

