/- CurveWrites and CurveReads over E. -/
import Derived.Test.YtibmidoepeghpaaCurX
import Derived.Test.YtibmidoepeghpaaProg
import Derived.KernelRfl
set_option linter.unusedVariables false
set_option linter.unusedSimpArgs false
set_option maxRecDepth 10000
open Go Go.Proofs.Ytibmidoepeghpaa.E Go.Proofs
namespace Go.Proofs.Ytibmidoepeghpaa.E.M
theorem num8 (a b c d e f g h : Int) (l : List Int) : num (a :: b :: c :: d :: e :: f :: g :: h :: l) = ((((((a * 256 + b) * 256 + c) * 256 + d) * 256 + e) * 256 + f) * 256 + g) * 256 + h := by
  show ((((((((0 * 256 + a) * 256 + b) * 256 + c) * 256 + d) * 256 + e) * 256 + f) * 256 + g) * 256 + h) = _
  rw [Int.zero_mul, Int.zero_add]
theorem num_be {x : Int} (hx : w64 x) (l : List Int) : num (be x ++ l) = x := by
  have h0 := hx.1
  have h1 := hx.2
  clear hx
  unfold be
  show num (_ :: _ :: _ :: _ :: _ :: _ :: _ :: _ :: l) = x
  rw [num8]
  omega
theorem be_num {a b c d e f g h : Int} (ha : b8 a) (hb : b8 b) (hc : b8 c) (hd : b8 d) (he : b8 e) (hf : b8 f) (hg : b8 g) (hh : b8 h) :
    be (((((((a * 256 + b) * 256 + c) * 256 + d) * 256 + e) * 256 + f) * 256 + g) * 256 + h) = [a, b, c, d, e, f, g, h] := by
  obtain ⟨a0, a1⟩ := ha
  obtain ⟨b0, b1⟩ := hb
  obtain ⟨c0, c1⟩ := hc
  obtain ⟨d0, d1⟩ := hd
  obtain ⟨e0, e1⟩ := he
  obtain ⟨f0, f1⟩ := hf
  obtain ⟨g0, g1⟩ := hg
  obtain ⟨h0, h1⟩ := hh
  unfold be
  simp only [List.cons.injEq, and_true]
  refine ⟨?_, ?_, ?_, ?_, ?_, ?_, ?_, ?_⟩ <;> omega
theorem be_num' : ∀ {M : List Int}, M.length = 8 → (∀ b ∈ M, b8 b) → be (num M) = M
  | [a, b, c, d, e, f, g, h], _, hb => by
    rw [num8]
    exact be_num (hb _ (by simp)) (hb _ (by simp)) (hb _ (by simp)) (hb _ (by simp)) (hb _ (by simp)) (hb _ (by simp)) (hb _ (by simp)) (hb _ (by simp))
theorem num_take (M : List Int) : num (M.take 8) = num M := by unfold num; rw [List.take_take, Nat.min_self]
theorem readC_bytes {b : Bool} {x y : Int} (hx : w64 x) (hy : w64 y) (h : isPt b x y = true) : readC (bytesP b x y) = .tup [pt (b, x, y), nil_] := by
  cases b with
  | true =>
    obtain ⟨rfl, rfl⟩ := Pt.inf (x := x) (y := y) h
    show readC [0] = _
    unfold readC
    rw [if_pos rfl]
  | false =>
    show readC (1 :: (be x ++ be y)) = _
    unfold readC
    rw [if_neg (by intro e; injection e with e; cases e), if_pos ⟨rfl, rfl⟩]
    have e1 : (1 :: (be x ++ be y)).drop 1 = be x ++ be y := rfl
    have e2 : (1 :: (be x ++ be y)).drop 9 = be y ++ [] := by rw [List.append_nil]; rfl
    rw [e1, e2, num_be hx, num_be hy, if_pos h]
theorem be_b8 (x : Int) : ∀ b ∈ be x, b8 b := by
  intro b hb
  unfold be at hb
  simp only [List.mem_cons, List.not_mem_nil, or_false] at hb
  rcases hb with rfl | rfl | rfl | rfl | rfl | rfl | rfl | rfl <;> exact ⟨Int.emod_nonneg _ (by decide), Int.emod_lt_of_pos _ (by decide)⟩
theorem bytesP_b8 (b : Bool) (x y : Int) : ∀ c ∈ bytesP b x y, b8 c := by
  intro c hc
  unfold bytesP at hc
  split at hc
  · simp at hc; subst hc; exact ⟨by decide, by decide⟩
  · rcases List.mem_cons.1 hc with rfl | hc
    · exact ⟨by decide, by decide⟩
    · rcases List.mem_append.1 hc with hc | hc
      · exact be_b8 _ _ hc
      · exact be_b8 _ _ hc
theorem bytesP_len (b : Bool) (x y : Int) : (bytesP b x y).length ≤ 17 := by
  unfold bytesP; split
  · decide
  · exact Nat.le_refl _
/-- what is read: two answers that go together -/
theorem read_both {L : List Int} (hb : ∀ b ∈ L, b8 b) : (readP L = ((false, 0, 0), false) ∧ readC L = .tup [pt (false, 0, 0), er 3]) ∨
    ∃ b x y, readP L = ((b, x, y), true) ∧ readC L = .tup [pt (b, x, y), nil_] ∧ isPt b x y = true ∧ bytesP b x y = L ∧ w64 x ∧ w64 y := by
  unfold readP readC
  split
  · rename_i h
    exact .inr ⟨true, 0, 0, rfl, rfl, rfl, h.symm, by decide, by decide⟩
  · split
    · rename_i h
      obtain ⟨h1, h2⟩ := h
      split
      · rename_i hp
        have hb1 : ∀ b ∈ L.drop 1, b8 b := fun b h => hb b (List.mem_of_mem_drop h)
        have hb9 : ∀ b ∈ L.drop 9, b8 b := fun b h => hb b (List.mem_of_mem_drop h)
        refine .inr ⟨false, _, _, rfl, rfl, hp, ?_, num_w hb1, num_w hb9⟩
        show 1 :: (be (num (L.drop 1)) ++ be (num (L.drop 9))) = L
        rw [← num_take (L.drop 1), be_num' (by rw [List.length_take, List.length_drop, h1]; rfl) (fun b h => hb1 b (List.mem_of_mem_take h)),
          be_num' (by rw [List.length_drop, h1]) hb9, show L.drop 9 = (L.drop 1).drop 8 by rw [List.drop_drop], List.take_append_drop]
        cases L with
        | nil => cases h2
        | cons a r => rw [Option.some.inj h2]; rfl
      · exact .inl ⟨rfl, rfl⟩
    · exact .inl ⟨rfl, rfl⟩
theorem up_mul : timesP (false, 247390119040843104, 830327839767444578) 288230376287764481 = (true, 0, 0) := by decide +kernel
theorem up_neg : negP (false, 247390119040843104, 830327839767444578) = (false, 247390119040843104, 322593665383613345) := by decide +kernel
theorem up_is : isPt false 247390119040843104 830327839767444578 = true := by decide +kernel
theorem up_is2 : isPt false 247390119040843104 322593665383613345 = true := by decide +kernel
theorem up_add : sumP (false, 247390119040843104, 830327839767444578) (false, 247390119040843104, 322593665383613345) = (true, 0, 0) := by decide +kernel
theorem up_two : (sumP (false, 247390119040843104, 830327839767444578) (false, 247390119040843104, 830327839767444578)).1 = false := by decide +kernel
set_option maxHeartbeats 2000000 in
theorem obollaw03_up_c : Fn Try.prog 14 [] [] (fun r _ => r = bo true) := by
  have c1 := curve_Is_c (b := false) (x := 247390119040843104) (y := 830327839767444578) (by decide) (by decide)
  rw [up_is] at c1
  have c2 := curve_Mul_c (b := false) (x := 247390119040843104) (y := 830327839767444578) (k := 288230376287764481) (by decide) (by decide) (by decide)
  rw [sureP_self up_is, up_mul] at c2
  have c3 := curve_Neg_c (b := false) (x := 247390119040843104) (y := 830327839767444578) (by decide) (by decide)
  rw [sureP_self up_is, up_neg] at c3
  have c4 := curve_Add_c (a0 := false) (b0 := false) (ax := 247390119040843104) (ay := 830327839767444578) (bx := 247390119040843104) (bY := 322593665383613345) (by decide) (by decide) (by decide) (by decide)
  rw [sureP_self up_is, sureP_self up_is2, up_add] at c4
  have c5 := curve_Add_c (a0 := false) (b0 := false) (ax := 247390119040843104) (ay := 830327839767444578) (bx := 247390119040843104) (bY := 830327839767444578) (by decide) (by decide) (by decide) (by decide)
  rw [sureP_self up_is] at c5
  have h5 := up_two
  generalize sumP (false, 247390119040843104, 830327839767444578) (false, 247390119040843104, 830327839767444578) = S at *
  obtain ⟨S0, S1, S2⟩ := S
  obtain rfl : S0 = false := h5
  refine Fn.enter Try.func14 Try.ntmps14 rfl (h := ?_)
  have tf := tf
  repeat refine AW.seq ?_
  refine AW.reg ?_
  iterate 1 refine AOL.s1 (h := ?_)
  refine AOL.nil ?_
  refine AW.kq [] (h := ?_)
  repeat refine AW.seq ?_
  refine AW.reg ?_
  refine AOL.callD rfl (curve_Gen_c) (by kernel_rfl) rfl rfl (h := ?_)
  iterate 2 refine AOL.s1 (h := ?_)
  refine AOL.nil ?_
  refine AW.kq [1] (h := ?_)
  repeat refine AW.seq ?_
  refine AW.drw 26 [] (by kernel_rfl) (h := ?_)
  iterate 5 refine ADL.dm 1 (h := ?_)
  refine ADL.call rfl (c1) (by kernel_rfl) rfl rfl (h := ?_)
  iterate 3 refine ADL.dm 1 (h := ?_)
  refine ADL.call rfl (c2) (by kernel_rfl) rfl rfl (h := ?_)
  iterate 5 refine ADL.dm 1 (h := ?_)
  refine ADL.call rfl (c3) (by kernel_rfl) rfl rfl (h := ?_)
  refine ADL.call rfl (c4) (by kernel_rfl) rfl rfl (h := ?_)
  iterate 5 refine ADL.dm 1 (h := ?_)
  refine ADL.call rfl (c5) (by kernel_rfl) rfl rfl (h := ?_)
  iterate 3 refine ADL.dm 1 (h := ?_)
  refine ADL.done hmix rfl rfl (hT := ?_)
  iterate 1 refine AOL.s1 (h := ?_)
  refine AOL.nil ?_
  refine AW.kq [0] (h := ?_)
  repeat refine AW.seq ?_
  refine AW.ret ?_
  refine ⟨_, [], rfl, HOk.nil _, ?_⟩
  rfl
set_option maxHeartbeats 2000000 in
theorem obollaw03_CurveWrites_c {b : Bool} {x y : Int} (hx : w64 x) (hy : w64 y) : Fn Try.prog 7 [pt (b, x, y)] [] (fun r _ => r = bo true) := by
  have eqPt : eqT Try.prog 24 = some [.bool, .int, .int] := eqT_of (by kernel_rfl) (by kernel_rfl) (by kernel_rfl)
  have tc : tIface Try.prog 38 = some false := rfl
  have cw := curve_Write_c (b := b) hx hy
  have ci := obolref03_Is_c (b := b) hx hy
  have cb := obolref03_Bytes_c (b := b) hx hy
  have cr := curve_Read_c (bytesP_b8 b x y) (by have := bytesP_len b x y; omega)
  unfold writeV at cw
  have hr := readC_bytes (b := b) hx hy
  generalize isPt b x y = p at *
  cases p with
  | false =>
    refine Fn.enter Try.func7 Try.ntmps7 rfl (h := ?_)
    have tf := tf
    have tfb := tfb
    repeat refine AW.seq ?_
    refine AW.reg ?_
    iterate 2 refine AOL.s1 (h := ?_)
    refine AOL.nil ?_
    refine AW.kq [1] (h := ?_)
    repeat refine AW.seq ?_
    refine AW.reg ?_
    refine AOL.callD rfl (obollaw03_up_c) (by kernel_rfl) rfl rfl (h := ?_)
    iterate 1 refine AOL.s1 (h := ?_)
    refine AOL.nil ?_
    refine AW.kq [1, 3] (h := ?_)
    repeat refine AW.seq ?_
    refine AW.reg ?_
    iterate 1 refine AOL.s1 (h := ?_)
    refine AOL.callD rfl (cw) (by kernel_rfl) rfl rfl (h := ?_)
    iterate 5 refine AOL.s1 (h := ?_)
    refine AOL.nil ?_
    refine AW.kq [1, 3, 4, 5] (h := ?_)
    repeat refine AW.seq ?_
    refine AW.reg ?_
    iterate 1 refine AOL.s1 (h := ?_)
    refine AOL.callD rfl (ci) (by kernel_rfl) rfl rfl (h := ?_)
    iterate 1 refine AOL.s1 (h := ?_)
    refine AOL.nil ?_
    refine AW.kq [1, 3, 4, 5, 6] (h := ?_)
    repeat refine AW.seq ?_
    refine AW.reg ?_
    iterate 2 refine AOL.s1 (h := ?_)
    refine AOL.nil ?_
    refine AW.kq [1, 3, 4, 5, 18] (h := ?_)
    repeat refine AW.seq ?_
    refine AW.cond rfl (fun c_ => ?_) (fun c_ => ?_)
    · repeat refine AW.seq ?_
      refine AW.reg ?_
      iterate 12 refine AOL.s1 (h := ?_)
      refine AOL.nil ?_
      refine AW.kq [2] (h := ?_)
      repeat refine AW.seq ?_
      refine AW.ret ?_
      refine ⟨_, [], rfl, HOk.nil _, ?_⟩
      rfl
    cases c_
  | true =>
    rw [hr rfl] at cr
    rw [if_pos rfl] at cw
    clear hr
    generalize bytesP b x y = M at *
    refine Fn.enter Try.func7 Try.ntmps7 rfl (h := ?_)
    have tf := tf
    have tfb := tfb
    repeat refine AW.seq ?_
    refine AW.reg ?_
    iterate 2 refine AOL.s1 (h := ?_)
    refine AOL.nil ?_
    refine AW.kq [1] (h := ?_)
    repeat refine AW.seq ?_
    refine AW.reg ?_
    refine AOL.callD rfl (obollaw03_up_c) (by kernel_rfl) rfl rfl (h := ?_)
    iterate 1 refine AOL.s1 (h := ?_)
    refine AOL.nil ?_
    refine AW.kq [1, 3] (h := ?_)
    repeat refine AW.seq ?_
    refine AW.reg ?_
    iterate 1 refine AOL.s1 (h := ?_)
    refine AOL.callD rfl (cw) (by kernel_rfl) rfl rfl (h := ?_)
    iterate 5 refine AOL.s1 (h := ?_)
    refine AOL.nil ?_
    refine AW.kq [1, 3, 4, 5] (h := ?_)
    repeat refine AW.seq ?_
    refine AW.reg ?_
    iterate 1 refine AOL.s1 (h := ?_)
    refine AOL.callD rfl (ci) (by kernel_rfl) rfl rfl (h := ?_)
    iterate 1 refine AOL.s1 (h := ?_)
    refine AOL.nil ?_
    refine AW.kq [1, 3, 4, 5, 6] (h := ?_)
    repeat refine AW.seq ?_
    refine AW.reg ?_
    iterate 2 refine AOL.s1 (h := ?_)
    refine AOL.nil ?_
    refine AW.kq [1, 3, 4, 5, 18] (h := ?_)
    repeat refine AW.seq ?_
    refine AW.cond rfl (fun c_ => ?_) (fun c_ => ?_)
    · cases c_
    refine AW.skip ?_
    repeat refine AW.seq ?_
    refine AW.reg ?_
    iterate 1 refine AOL.s1 (h := ?_)
    refine AOL.callD rfl (cr) (by kernel_rfl) rfl rfl (h := ?_)
    iterate 6 refine AOL.s1 (h := ?_)
    refine AOL.nil ?_
    refine AW.kq [1, 3, 4, 5, 7, 8] (h := ?_)
    repeat refine AW.seq ?_
    refine AW.drw 22 [] (by kernel_rfl) (h := ?_)
    iterate 9 refine ADL.dm 1 (h := ?_)
    refine ADL.call rfl (cb) (by kernel_rfl) rfl rfl (h := ?_)
    iterate 12 refine ADL.dm 1 (h := ?_)
    refine ADL.done hmix rfl rfl (hT := ?_)
    iterate 1 refine AOL.s1 (h := ?_)
    refine AOL.nil ?_
    refine AW.kq [2] (h := ?_)
    repeat refine AW.seq ?_
    refine AW.ret ?_
    refine ⟨_, [], rfl, HOk.nil _, ?_⟩
    rfl
set_option maxHeartbeats 2000000 in
theorem obollaw03_CurveReads_c {L : List Int} (hb : ∀ b ∈ L, b8 b) (hl : L.length ≤ 9223372036854775807) : Fn Try.prog 8 [sl8 L] [] (fun r _ => r = bo true) := by
  have eqPt : eqT Try.prog 24 = some [.bool, .int, .int] := eqT_of (by kernel_rfl) (by kernel_rfl) (by kernel_rfl)
  have tc : tIface Try.prog 38 = some false := rfl
  have cr := curve_Read_c hb hl
  have cp := obolref03_Read_c hb hl
  rcases read_both hb with ⟨h1, h2⟩ | ⟨b, x, y, h1, h2, h3, h4, hx, hy⟩
  · rw [h2] at cr
    rw [h1] at cp
    refine Fn.enter Try.func8 Try.ntmps8 rfl (h := ?_)
    have tf := tf
    have tfb := tfb
    repeat refine AW.seq ?_
    refine AW.reg ?_
    iterate 1 refine AOL.s1 (h := ?_)
    refine AOL.nil ?_
    refine AW.kq [0] (h := ?_)
    repeat refine AW.seq ?_
    refine AW.reg ?_
    refine AOL.callD rfl (obollaw03_up_c) (by kernel_rfl) rfl rfl (h := ?_)
    iterate 1 refine AOL.s1 (h := ?_)
    refine AOL.nil ?_
    refine AW.kq [0, 3] (h := ?_)
    repeat refine AW.seq ?_
    refine AW.reg ?_
    iterate 1 refine AOL.s1 (h := ?_)
    refine AOL.callD rfl (cr) (by kernel_rfl) rfl rfl (h := ?_)
    iterate 6 refine AOL.s1 (h := ?_)
    refine AOL.nil ?_
    refine AW.kq [0, 3, 4, 5] (h := ?_)
    repeat refine AW.seq ?_
    refine AW.reg ?_
    iterate 1 refine AOL.s1 (h := ?_)
    refine AOL.callD rfl (cp) (by kernel_rfl) rfl rfl (h := ?_)
    iterate 6 refine AOL.s1 (h := ?_)
    refine AOL.nil ?_
    refine AW.kq [0, 3, 4, 5, 6, 7] (h := ?_)
    repeat refine AW.seq ?_
    refine AW.reg ?_
    iterate 2 refine AOL.s1 (h := ?_)
    refine AOL.nil ?_
    refine AW.kq [0, 3, 4, 5, 6, 22] (h := ?_)
    repeat refine AW.seq ?_
    refine AW.cond rfl (fun c_ => ?_) (fun c_ => ?_)
    · repeat refine AW.seq ?_
      refine AW.reg ?_
      iterate 12 refine AOL.s1 (h := ?_)
      refine AOL.nil ?_
      refine AW.kq [2] (h := ?_)
      repeat refine AW.seq ?_
      refine AW.ret ?_
      refine ⟨_, [], rfl, HOk.nil _, ?_⟩
      rfl
    cases c_
  · rw [h2] at cr
    rw [h1] at cp
    have cw := curve_Write_c (b := b) hx hy
    unfold writeV at cw
    rw [if_pos h3, h4] at cw
    clear h1 h2 h3 h4
    refine Fn.enter Try.func8 Try.ntmps8 rfl (h := ?_)
    have tf := tf
    have tfb := tfb
    repeat refine AW.seq ?_
    refine AW.reg ?_
    iterate 1 refine AOL.s1 (h := ?_)
    refine AOL.nil ?_
    refine AW.kq [0] (h := ?_)
    repeat refine AW.seq ?_
    refine AW.reg ?_
    refine AOL.callD rfl (obollaw03_up_c) (by kernel_rfl) rfl rfl (h := ?_)
    iterate 1 refine AOL.s1 (h := ?_)
    refine AOL.nil ?_
    refine AW.kq [0, 3] (h := ?_)
    repeat refine AW.seq ?_
    refine AW.reg ?_
    iterate 1 refine AOL.s1 (h := ?_)
    refine AOL.callD rfl (cr) (by kernel_rfl) rfl rfl (h := ?_)
    iterate 6 refine AOL.s1 (h := ?_)
    refine AOL.nil ?_
    refine AW.kq [0, 3, 4, 5] (h := ?_)
    repeat refine AW.seq ?_
    refine AW.reg ?_
    iterate 1 refine AOL.s1 (h := ?_)
    refine AOL.callD rfl (cp) (by kernel_rfl) rfl rfl (h := ?_)
    iterate 6 refine AOL.s1 (h := ?_)
    refine AOL.nil ?_
    refine AW.kq [0, 3, 4, 5, 6, 7] (h := ?_)
    repeat refine AW.seq ?_
    refine AW.reg ?_
    iterate 2 refine AOL.s1 (h := ?_)
    refine AOL.nil ?_
    refine AW.kq [0, 3, 4, 5, 6, 22] (h := ?_)
    repeat refine AW.seq ?_
    refine AW.cond rfl (fun c_ => ?_) (fun c_ => ?_)
    · cases c_
    refine AW.skip ?_
    repeat refine AW.seq ?_
    refine AW.reg ?_
    iterate 1 refine AOL.s1 (h := ?_)
    refine AOL.callD rfl (cw) (by kernel_rfl) rfl rfl (h := ?_)
    iterate 5 refine AOL.s1 (h := ?_)
    refine AOL.nil ?_
    refine AW.kq [0, 3, 4, 5, 6, 8, 9] (h := ?_)
    repeat refine AW.seq ?_
    refine AW.reg ?_
    iterate 22 refine AOL.s1 (h := ?_)
    refine AOL.nil ?_
    refine AW.kq [2] (h := ?_)
    repeat refine AW.seq ?_
    refine AW.ret ?_
    refine ⟨_, [], rfl, HOk.nil _, ?_⟩
    rfl
end Go.Proofs.Ytibmidoepeghpaa.E.M

