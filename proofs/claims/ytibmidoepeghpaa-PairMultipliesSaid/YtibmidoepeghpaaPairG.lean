/- PairMultiplies over E. -/
import Derived.Test.YtibmidoepeghpaaPairF
import Derived.Test.YtibmidoepeghpaaProg
import Derived.KernelRfl
set_option linter.unusedVariables false
set_option linter.unusedSimpArgs false
set_option maxRecDepth 10000
open Go Go.Proofs.Ytibmidoepeghpaa.E Go.Proofs
namespace Go.Proofs.Ytibmidoepeghpaa.E.M
theorem nz_e {e0 e1 : Int} (h : ((e0, e1) : Int × Int) ≠ (0, 0)) : (e0 == 0 && e1 == 0) = false := e_ne h
theorem prodF_cons (x y : P3) (ra rq : List P3) (o : Int × Int) : prodF (x :: ra) (y :: rq) o = if pairE x y = (0, 0) then none else prodF ra rq (mulE o (pairE x y)) := rfl
set_option maxHeartbeats 4000000 in
theorem obollaw04_PairMultiplies_c {a q : List P3} (ha : wL a) (hq : wL q) (la : a.length ≤ 9223372036854775807) (lq : q.length ≤ 9223372036854775807) : Fn Try.prog 12 [slF ptc a, slF ptc q] [] (fun r _ => r = bo true) := by
  have eqE := eqE
  have eqPt := eqPt
  have tc : tIface Try.prog 38 = some false := rfl
  refine Fn.enter Try.func12 Try.ntmps12 rfl (h := ?_)
  have tf := tf
  have tfe := tfe
  have tfl := tfl
  repeat refine AW.seq ?_
  refine AW.reg ?_
  iterate 1 refine AOL.s1 (h := ?_)
  refine AOL.nil ?_
  refine AW.kq [0, 1] (h := ?_)
  repeat refine AW.seq ?_
  refine AW.reg ?_
  refine AOL.callD rfl (obollaw04_up_c) (by kernel_rfl) rfl rfl (h := ?_)
  iterate 1 refine AOL.s1 (h := ?_)
  refine AOL.nil ?_
  refine AW.kq [0, 1, 5] (h := ?_)
  repeat refine AW.seq ?_
  refine AW.reg ?_
  iterate 4 refine AOL.s1 (h := ?_)
  refine AOL.kq [0, 1, 5, 16] (h := ?_)
  refine AOL.or 16 20 (os' := ?_) (x := ?_) (h1 := ?_) (h0 := ?_) (h := ?_)
  rotate_left 2
  iterate 2
    · intro hb_ K' hK; (iterate 4 refine AOL.s1 (h := ?_)); refine AOL.kq [0, 1, 5, 20] (h := ?_); exact hK
  refine AOL.nil ?_
  refine AW.kq [0, 1, 5, 20] (h := ?_)
  repeat refine AW.seq ?_
  refine AW.cond rfl (fun c_ => ?_) (fun c_ => ?_)
  · repeat refine AW.seq ?_
    refine AW.reg ?_
    iterate 2 refine AOL.s1 (h := ?_)
    refine AOL.nil ?_
    refine AW.kq [4] (h := ?_)
    repeat refine AW.seq ?_
    refine AW.ret ?_
    refine ⟨_, [], rfl, HOk.nil _, ?_⟩
    rfl
  have c1 : a.length ≤ 6 ∧ q.length ≤ 6 := by
    have : (a.length : Int) ≤ 6 ∧ (q.length : Int) ≤ 6 := by simpa using c_
    omega
  have la' : a.length < 1000000000 := by omega
  have lq' : q.length < 1000000000 := by omega
  have cp := pair_Product_c ha hq la' lq'
  clear c_
  refine AW.skip ?_
  repeat refine AW.seq ?_
  have hpv : (a.length = q.length ∧ ∃ o, prodF a q (1, 0) = some o ∧ prodV a q = (o, true)) ∨ ((a.length = q.length → prodF a q (1, 0) = none) ∧ prodV a q = ((0, 0), false)) := by
    unfold prodV
    by_cases h : a.length = q.length
    · rw [if_pos h]
      cases hp : prodF a q (1, 0) with
      | some o => exact .inl ⟨h, o, rfl, rfl⟩
      | none => exact .inr ⟨fun _ => rfl, rfl⟩
    · rw [if_neg h]
      exact .inr ⟨fun e => absurd e h, rfl⟩
  rcases hpv with hpv | hpv
  · obtain ⟨hl, ⟨r0, r1⟩, hp, hv⟩ := hpv
    have lp := prodF_lt a q _ _ one_lt hp
    rw [hv] at cp
    clear hv
    have hl' : ((a.length : Int) == (q.length : Int)) = true := by rw [hl]; simp
    replace hl : id (a.length = q.length) := hl
    refine AW.reg ?_
    iterate 2 refine AOL.s1 (h := ?_)
    refine AOL.callD rfl (cp) (by kernel_rfl) rfl rfl (h := ?_)
    iterate 6 refine AOL.s1 (h := ?_)
    refine AOL.nil ?_
    refine AW.kq [0, 1, 5, 6, 7] (h := ?_)
    clear cp
    repeat refine AW.seq ?_
    refine AW.reg ?_
    refine AOL.callD rfl (obollaw04_one_c) (by kernel_rfl) rfl rfl (h := ?_)
    iterate 2 refine AOL.s1 (h := ?_)
    refine AOL.nil ?_
    refine AW.kq [0, 1, 5, 6, 7, 8] (h := ?_)
    repeat refine AW.seq ?_
    refine AW.reg ?_
    iterate 6 refine AOL.s1 (h := ?_)
    refine AOL.nil ?_
    refine AW.kq [0, 1, 5, 6, 7, 8, 9] (h := ?_)
    clear hl'
    repeat refine AW.seq ?_
    refine AW.reg ?_
    iterate 1 refine AOL.s1 (h := ?_)
    refine AOL.nil ?_
    refine AW.kq [0, 1, 5, 6, 7, 8, 9, 10] (h := ?_)
    repeat refine AW.seq ?_
    refine AW.block ?_
    repeat refine AW.seq ?_
    refine AW.loopK [0, 1, 5, 6, 7, 8, 9, 10] (fun n s => ∃ (k : Nat) (ra rq : List P3) (o0 o1 : Int), s = ⟨81, [(0, slF ptc a), (1, slF ptc q), (5, bo true), (6, .ptr 1096 0), (7, nil_), (8, .ptr 1128 0), (9, bo true), (10, i k)], [(1096, ⟨48, true, [u r0, u r1]⟩), (1128, ⟨48, true, [u o0, u o1]⟩)]⟩ ∧ a.drop k = ra ∧ q.drop k = rq ∧ k ≤ a.length ∧ n = ra.length ∧ (lt o0 ∧ lt o1) ∧ prodF ra rq (o0, o1) = some (r0, r1)) a.length ?_ ?_
    · exact ⟨0, a, q, 1, 0, rfl, rfl, rfl, Nat.zero_le _, rfl, one_lt, hp⟩
    clear hp
    rintro n s ⟨k, ra, rq, o0, o1, rfl, hra, hrq, hk, rfl, ho, hp⟩
    repeat refine AW.seq ?_
    refine AW.reg ?_
    iterate 5 refine AOL.s1 (h := ?_)
    refine AOL.kq [0, 1, 5, 6, 7, 8, 9, 10, 38] (h := ?_)
    refine AOL.and 38 40 (os' := ?_) (x := ?_) (h1 := ?_) (h0 := ?_) (h := ?_)
    rotate_left 2
    iterate 2
      · intro hb_ K' hK; (iterate 2 refine AOL.s1 (h := ?_)); refine AOL.kq [0, 1, 5, 6, 7, 8, 9, 10, 40] (h := ?_); exact hK
    refine AOL.nil ?_
    refine AW.kq [0, 1, 5, 6, 7, 8, 9, 10, 40] (h := ?_)
    repeat refine AW.seq ?_
    refine AW.cond rfl (fun c_ => ?_) (fun c_ => ?_)
    · cases ra with
      | nil => exfalso; have := dnil hra hk; simp at c_; omega
      | cons x ra =>
      obtain ⟨hlt, hra', hx⟩ := dcons hra
      have hl_ : a.length = q.length := hl
      cases rq with
      | nil => exfalso; have := dnil hrq (by omega); omega
      | cons y rq =>
      obtain ⟨hlt2, hrq', hy⟩ := dcons hrq
      have hd : (fm ptc a).drop (k * 3) = bo x.1 :: u x.2.1 :: u x.2.2 :: fm ptc ra := fm_drop ptc_len hra
      have hd2 : (fm ptc q).drop (k * 3) = bo y.1 :: u y.2.1 :: u y.2.2 :: fm ptc rq := fm_drop ptc_len hrq
      have k0 : (0:Int) ≤ k := by omega
      have k1 : (k:Int) < a.length := by omega
      have k2_ : (k:Int) < q.length := by omega
      have hw := inc_ hlt la'
      have wx := ha x (List.mem_of_getElem? hx)
      have wy := hq y (List.mem_of_getElem? hy)
      have cp := obolref04_Pair_c (a0 := x.1) (q0 := y.1) wx.1 wx.2 wy.1 wy.2
      have le := pairE_lt x y
      rw [rpair_eq, show ((x.1, x.2.1, x.2.2) : P3) = x from rfl, show ((y.1, y.2.1, y.2.2) : P3) = y from rfl] at cp
      rw [prodF_cons] at hp
      generalize pairE x y = e at *
      obtain ⟨e0, e1⟩ := e
      have cm := obolref02_Mul_c ho.1.w ho.2.w le.1.w le.2.w
      have lm := mulE_lt (o0, o1) (e0, e1)
      generalize mulE (o0, o1) (e0, e1) = M at *
      obtain ⟨m0, m1⟩ := M
      clear hra hrq hx hy wx wy hl_ c_
      have ne : ¬ ((e0, e1) : Int × Int) = (0, 0) := by
        intro h
        rw [if_pos h] at hp; cases hp
      rw [if_neg ne] at hp
      have nz := nz_e ne
      clear ne
      refine AW.skip ?_
      repeat refine AW.seq ?_
      refine AW.block ?_
      repeat refine AW.seq ?_
      refine AW.drw 10 [1176] (by kernel_rfl) (h := ?_)
      iterate 8 refine ADL.dm 1 (h := ?_)
      refine ADL.call rfl (cp) (by kernel_rfl) rfl rfl (h := ?_)
      iterate 1 refine ADL.dm 1 (h := ?_)
      refine ADL.done hmix rfl rfl (hT := ?_)
      iterate 1 refine AOL.s1 (h := ?_)
      refine AOL.nil ?_
      refine AW.kq [0, 1, 5, 6, 7, 8, 10, 11] (h := ?_)
      clear cp hd hd2
      repeat refine AW.seq ?_
      refine AW.reg ?_
      iterate 4 refine AOL.s1 (h := ?_)
      refine AOL.nil ?_
      refine AW.kq [0, 1, 5, 6, 7, 8, 9, 10, 11] (h := ?_)
      repeat refine AW.seq ?_
      refine AW.reg ?_
      iterate 2 refine AOL.s1 (h := ?_)
      refine AOL.callD rfl (cm) (by kernel_rfl) rfl rfl (h := ?_)
      iterate 1 refine AOL.s1 (h := ?_)
      refine AOL.nil ?_
      refine AW.let 1176 (h := ?_)
      repeat refine AW.seq ?_
      refine AW.reg ?_
      iterate 3 refine AOL.s1 (h := ?_)
      refine AOL.nil ?_
      exact ⟨ra.length, by simp, _, _, _, _, _, rfl, hra', hrq', hlt, rfl, lm, hp⟩
    have hre : ra = [] := by
      cases ra with
      | nil => rfl
      | cons t r => have := (dcons hra).1; simp at c_; omega
    subst hre
    have hp : ((o0, o1) : Int × Int) = (r0, r1) := by
      cases rq <;> exact Option.some.inj hp
    cases hp
    clear c_ hra hrq
    repeat refine AW.seq ?_
    refine AW.exit ?_
    repeat (first | refine Kseq.ex ?_ | refine Kloop.ex ?_ | refine Kblock.miss (by decide) ?_)
    refine Kblock.hit ?_
    refine AW.kq [5, 6, 7, 8, 9] (h := ?_)
    repeat refine AW.seq ?_
    refine AW.reg ?_
    iterate 2 refine AOL.s1 (h := ?_)
    refine AOL.nil ?_
    refine AW.kq [5, 6, 7, 8, 59] (h := ?_)
    repeat refine AW.seq ?_
    refine AW.cond rfl (fun c_ => ?_) (fun c_ => ?_)
    · cases c_
    clear c_
    refine AW.skip ?_
    repeat refine AW.seq ?_
    refine AW.reg ?_
    iterate 11 refine AOL.s1 (h := ?_)
    refine AOL.nil ?_
    refine AW.kq [4] (h := ?_)
    repeat refine AW.seq ?_
    refine AW.ret ?_
    refine ⟨_, [], rfl, HOk.nil _, ?_⟩
    rfl
  · obtain ⟨hp, hv⟩ := hpv
    rw [hv] at cp
    clear hv
    have hl' : ((a.length : Int) == (q.length : Int)) = decide (a.length = q.length) := by
      rw [Bool.eq_iff_iff, beq_iff_eq, decide_eq_true_iff]; omega
    refine AW.reg ?_
    iterate 2 refine AOL.s1 (h := ?_)
    refine AOL.callD rfl (cp) (by kernel_rfl) rfl rfl (h := ?_)
    iterate 6 refine AOL.s1 (h := ?_)
    refine AOL.nil ?_
    refine AW.kq [0, 1, 5, 6, 7] (h := ?_)
    clear cp
    repeat refine AW.seq ?_
    refine AW.reg ?_
    refine AOL.callD rfl (obollaw04_one_c) (by kernel_rfl) rfl rfl (h := ?_)
    iterate 2 refine AOL.s1 (h := ?_)
    refine AOL.nil ?_
    refine AW.kq [0, 1, 5, 6, 7, 8] (h := ?_)
    repeat refine AW.seq ?_
    refine AW.reg ?_
    iterate 6 refine AOL.s1 (h := ?_)
    refine AOL.nil ?_
    refine AW.kq [0, 1, 5, 6, 7, 8, 9] (h := ?_)
    generalize hd0 : decide (a.length = q.length) = d0
    have hp : d0 = true → a.length = q.length ∧ prodF a q (1, 0) = none := by
      intro h
      rw [h] at hd0
      have := of_decide_eq_true hd0
      exact ⟨this, hp this⟩
    clear hd0
    clear hl'
    repeat refine AW.seq ?_
    refine AW.reg ?_
    iterate 1 refine AOL.s1 (h := ?_)
    refine AOL.nil ?_
    refine AW.kq [0, 1, 5, 6, 7, 8, 9, 10] (h := ?_)
    repeat refine AW.seq ?_
    refine AW.block ?_
    repeat refine AW.seq ?_
    refine AW.loopK [0, 1, 5, 6, 7, 8, 9, 10] (fun n s => ∃ (k : Nat) (ra rq : List P3) (o0 o1 : Int) (ok : Bool), s = ⟨81, [(0, slF ptc a), (1, slF ptc q), (5, bo true), (6, .ptr 1096 0), (7, er 1), (8, .ptr 1128 0), (9, bo ok), (10, i k)], [(1096, ⟨48, true, [u 0, u 0]⟩), (1128, ⟨48, true, [u o0, u o1]⟩)]⟩ ∧ a.drop k = ra ∧ q.drop k = rq ∧ k ≤ a.length ∧ n = ra.length ∧ (lt o0 ∧ lt o1) ∧ (ok = true → a.length = q.length ∧ prodF ra rq (o0, o1) = none)) a.length ?_ ?_
    · exact ⟨0, a, q, 1, 0, d0, rfl, rfl, rfl, Nat.zero_le _, rfl, one_lt, hp⟩
    clear hp d0
    rintro n s ⟨k, ra, rq, o0, o1, ok, rfl, hra, hrq, hk, rfl, ho, hp⟩
    repeat refine AW.seq ?_
    refine AW.reg ?_
    iterate 5 refine AOL.s1 (h := ?_)
    refine AOL.kq [0, 1, 5, 6, 7, 8, 9, 10, 38] (h := ?_)
    refine AOL.and 38 40 (os' := ?_) (x := ?_) (h1 := ?_) (h0 := ?_) (h := ?_)
    rotate_left 2
    iterate 2
      · intro hb_ K' hK; (iterate 2 refine AOL.s1 (h := ?_)); refine AOL.kq [0, 1, 5, 6, 7, 8, 9, 10, 40] (h := ?_); exact hK
    refine AOL.nil ?_
    refine AW.kq [0, 1, 5, 6, 7, 8, 9, 10, 40] (h := ?_)
    repeat refine AW.seq ?_
    refine AW.cond rfl (fun c_ => ?_) (fun c_ => ?_)
    · cases ra with
      | nil => exfalso; have := dnil hra hk; simp at c_; omega
      | cons x ra =>
      obtain ⟨hlt, hra', hx⟩ := dcons hra
      have hok : ok = true := by simp at c_; exact c_.2
      obtain ⟨hl_, hp⟩ := hp hok
      cases rq with
      | nil => exfalso; have := dnil hrq (by omega); omega
      | cons y rq =>
      obtain ⟨hlt2, hrq', hy⟩ := dcons hrq
      have hd : (fm ptc a).drop (k * 3) = bo x.1 :: u x.2.1 :: u x.2.2 :: fm ptc ra := fm_drop ptc_len hra
      have hd2 : (fm ptc q).drop (k * 3) = bo y.1 :: u y.2.1 :: u y.2.2 :: fm ptc rq := fm_drop ptc_len hrq
      have k0 : (0:Int) ≤ k := by omega
      have k1 : (k:Int) < a.length := by omega
      have k2_ : (k:Int) < q.length := by omega
      have hw := inc_ hlt la'
      have wx := ha x (List.mem_of_getElem? hx)
      have wy := hq y (List.mem_of_getElem? hy)
      have cp := obolref04_Pair_c (a0 := x.1) (q0 := y.1) wx.1 wx.2 wy.1 wy.2
      have le := pairE_lt x y
      rw [rpair_eq, show ((x.1, x.2.1, x.2.2) : P3) = x from rfl, show ((y.1, y.2.1, y.2.2) : P3) = y from rfl] at cp
      rw [prodF_cons] at hp
      generalize pairE x y = e at *
      obtain ⟨e0, e1⟩ := e
      have cm := obolref02_Mul_c ho.1.w ho.2.w le.1.w le.2.w
      have lm := mulE_lt (o0, o1) (e0, e1)
      generalize mulE (o0, o1) (e0, e1) = M at *
      obtain ⟨m0, m1⟩ := M
      clear hra hrq hx hy wx wy c_ hok
      replace hl_ : id (a.length = q.length) := hl_
      have hp2 : (!(e0 == 0 && e1 == 0)) = true → a.length = q.length ∧ prodF ra rq (m0, m1) = none := by
        intro h
        have ne : ¬ ((e0, e1) : Int × Int) = (0, 0) := by
          intro h'
          simp only [Prod.mk.injEq] at h'
          rw [h'.1, h'.2] at h; cases h
        rw [if_neg ne] at hp
        exact ⟨hl_, hp⟩
      clear hp
      refine AW.skip ?_
      repeat refine AW.seq ?_
      refine AW.block ?_
      repeat refine AW.seq ?_
      refine AW.drw 10 [1176] (by kernel_rfl) (h := ?_)
      iterate 8 refine ADL.dm 1 (h := ?_)
      refine ADL.call rfl (cp) (by kernel_rfl) rfl rfl (h := ?_)
      iterate 1 refine ADL.dm 1 (h := ?_)
      refine ADL.done hmix rfl rfl (hT := ?_)
      iterate 1 refine AOL.s1 (h := ?_)
      refine AOL.nil ?_
      refine AW.kq [0, 1, 5, 6, 7, 8, 10, 11] (h := ?_)
      clear cp hd hd2
      repeat refine AW.seq ?_
      refine AW.reg ?_
      iterate 4 refine AOL.s1 (h := ?_)
      refine AOL.nil ?_
      refine AW.kq [0, 1, 5, 6, 7, 8, 9, 10, 11] (h := ?_)
      repeat refine AW.seq ?_
      refine AW.reg ?_
      iterate 2 refine AOL.s1 (h := ?_)
      refine AOL.callD rfl (cm) (by kernel_rfl) rfl rfl (h := ?_)
      iterate 1 refine AOL.s1 (h := ?_)
      refine AOL.nil ?_
      refine AW.let 1176 (h := ?_)
      repeat refine AW.seq ?_
      refine AW.reg ?_
      iterate 3 refine AOL.s1 (h := ?_)
      refine AOL.nil ?_
      exact ⟨ra.length, by simp, _, _, _, _, _, _, rfl, hra', hrq', hlt, rfl, lm, hp2⟩
    have hok : ok = false := by
      cases ok with
      | false => rfl
      | true =>
        exfalso
        obtain ⟨hl, hp⟩ := hp rfl
        cases ra with
        | nil => cases rq <;> cases hp
        | cons t r => have := (dcons hra).1; simp at c_; omega
    subst hok
    clear c_ hra hrq
    repeat refine AW.seq ?_
    refine AW.exit ?_
    repeat (first | refine Kseq.ex ?_ | refine Kloop.ex ?_ | refine Kblock.miss (by decide) ?_)
    refine Kblock.hit ?_
    refine AW.kq [5, 6, 7, 8, 9] (h := ?_)
    repeat refine AW.seq ?_
    refine AW.reg ?_
    iterate 2 refine AOL.s1 (h := ?_)
    refine AOL.nil ?_
    refine AW.kq [5, 6, 7, 8, 59] (h := ?_)
    repeat refine AW.seq ?_
    refine AW.cond rfl (fun c_ => ?_) (fun c_ => ?_)
    · repeat refine AW.seq ?_
      refine AW.reg ?_
      iterate 12 refine AOL.s1 (h := ?_)
      refine AOL.nil ?_
      refine AW.kq [4] (h := ?_)
      repeat refine AW.seq ?_
      refine AW.ret ?_
      refine ⟨_, [], rfl, HOk.nil _, ?_⟩
      rfl
    cases c_
end Go.Proofs.Ytibmidoepeghpaa.E.M

