/- GadgetShape over E. -/
import Derived.Test.YtiikiamdbelbjaaGpo
import Derived.Test.YtiikiamdbelbjaaGai
import Derived.Test.YtiikiamdbelbjaaProg
import Derived.KernelRfl
set_option linter.unusedVariables false
set_option linter.unusedSimpArgs false
set_option maxRecDepth 10000
open Go Go.Proofs.Ytiikiamdbelbjaa.E Go.Proofs
namespace Go.Proofs.Ytiikiamdbelbjaa.E.M
theorem pk_lt {m : Mk} (g : Good m) {k : Nat} (h : Mok k m) : 0 ≤ m.p ∧ m.p < 1000000 := by
  have := g.p0
  have := g.p1
  have := h.1
  constructor <;> omega
set_option maxHeartbeats 16000000 in
theorem obollaw12_GadgetShape_c {S : List Dd} {V : List Int} (lS : S.length < 9223372036854775808) (hS : ∀ d ∈ S, i64b d.what ∧ w64 d.k ∧ wT d.L ∧ d.L.length < 9223372036854775808 ∧ d.V.length < 9223372036854775808) (hV : wV V) (lV : V.length < 9223372036854775808) : Fn Try.prog 5 [slF dd S, ul V] [] (fun r h_ => r = bo true) := by
  refine Fn.enter Try.func5 Try.ntmps5 rfl (h := ?_)
  have tf := tfm
  have ot_ : (false || true) = true := rfl
  have tfr := tfr
  have tfd := tfd
  have cU := obollaw12_up_c
  repeat refine AW.seq ?_
  refine AW.reg ?_
  iterate 1 refine AOL.s1 (h := ?_)
  refine AOL.nil ?_
  refine AW.kq [0, 1] (h := ?_)
  repeat refine AW.seq ?_
  refine AW.reg ?_
  refine AOL.callD rfl (cU) (by kernel_rfl) rfl rfl (h := ?_)
  iterate 1 refine AOL.s1 (h := ?_)
  refine AOL.nil ?_
  refine AW.kq [0, 1, 5] (h := ?_)
  repeat refine AW.seq ?_
  refine AW.reg ?_
  refine AOL.callNew (b := 1004) rfl (hst := by simp only [St.drops, St.drop, mapT, mapH, kill, kills, del, St.put, ins, reduceIte, Nat.reduceAdd, Nat.reduceLT, Nat.reduceEqDiff, Bool.false_eq_true]; exact rfl) ?_
  iterate 1 refine AOL.s1 (h := ?_)
  refine AOL.nil ?_
  refine AW.kq [0, 1, 5, 6] (h := ?_)
  repeat refine AW.seq ?_
  refine AW.reg ?_
  refine AOL.callNew (b := 1020) rfl (hst := by simp only [St.drops, St.drop, mapT, mapH, kill, kills, del, St.put, ins, reduceIte, Nat.reduceAdd, Nat.reduceLT, Nat.reduceEqDiff, Bool.false_eq_true]; exact rfl) ?_
  iterate 1 refine AOL.s1 (h := ?_)
  refine AOL.nil ?_
  refine AW.kq [0, 1, 5, 6, 7] (h := ?_)
  repeat refine AW.seq ?_
  refine AW.reg ?_
  iterate 1 refine AOL.s1 (h := ?_)
  refine AOL.ptrNil rfl (h := ?_)
  iterate 1 refine AOL.s1 (h := ?_)
  refine AOL.kq [0, 1, 5, 6, 7, 20] (h := ?_)
  iterate 1 refine AOL.s1 (h := ?_)
  refine AOL.ptrNil rfl (h := ?_)
  iterate 1 refine AOL.s1 (h := ?_)
  refine AOL.nil ?_
  refine AW.kq [0, 1, 5, 6, 7, 23] (h := ?_)
  repeat refine AW.seq ?_
  refine AW.cond rfl (fun c_ => ?_) (fun c_ => ?_)
  · cases c_
  refine AW.skip ?_
  repeat refine AW.seq ?_
  refine AW.reg ?_
  iterate 1 refine AOL.s1 (h := ?_)
  refine AOL.nil ?_
  refine AW.kq [0, 1, 5, 6, 7, 8] (h := ?_)
  repeat refine AW.seq ?_
  refine AW.block ?_
  repeat refine AW.seq ?_
  refine AW.loopK [0, 1, 5, 6, 7, 8] (fun n s => ∃ (k : Nat) (m m' : Mk), s = ⟨76, [(0, slF dd S), (1, ul V), (5, bo true), (6, .ptr 1004 0), (7, .ptr 1020 0), (8, i k)], [(1004, mkB m 1005 1006), (1005, rwB m.rows), (1006, vlB m.vals), (1020, mkB m' 1021 1022), (1021, rwB m'.rows), (1022, vlB m'.vals)]⟩ ∧ k ≤ 20 ∧ n = 20 - k ∧ Mok (997659 + 117 * (20 - k)) m ∧ Mok (997659 + 117 * (20 - k)) m' ∧ Good m ∧ Good m' ∧ Shp m m') (20) ?_ ?_
  · exact ⟨0, mk0, mk0, rfl, by decide, rfl, mok0, mok0, good0, good0, ⟨rfl, rfl, rfl, rfl⟩⟩
  rintro n s ⟨k, m, m', rfl, hk, rfl, hm, hm', g, g', hs⟩
  repeat refine AW.seq ?_
  refine AW.reg ?_
  iterate 5 refine AOL.s1 (h := ?_)
  refine AOL.kq [0, 1, 5, 6, 7, 8, 28] (h := ?_)
  refine AOL.and 28 31 (os' := ?_) (x := ?_) (h1 := ?_) (h0 := ?_) (h := ?_)
  rotate_left 2
  iterate 2
    · intro hb_ K' hK; (iterate 3 refine AOL.s1 (h := ?_)); refine AOL.kq [0, 1, 5, 6, 7, 8, 31] (h := ?_); exact hK
  refine AOL.nil ?_
  refine AW.kq [0, 1, 5, 6, 7, 8, 31] (h := ?_)
  repeat refine AW.seq ?_
  refine AW.cond rfl (fun c_ => ?_) (fun c_ => ?_)
  · have hc : k < S.length ∧ k < 20 := by simp at c_; omega
    obtain ⟨h1, h2⟩ := hc
    have k0 : (0:Int) ≤ k := by omega
    have k1 : (k:Int) < S.length := by omega
    have hw := incq h2 (by decide)
    have hd : (fm dd S).drop (k * 7) = i S[k].what :: i S[k].a :: i S[k].b :: i S[k].n :: u S[k].k :: slF tm S[k].L :: il S[k].V :: fm dd (S.drop (k + 1)) := fm_at dd_len h1
    obtain ⟨w1, w2, w3, w4, w5⟩ := hS S[k] (List.getElem_mem h1)
    have cS := obollaw12_small_c (d := S[k]) w4 w5
    clear c_
    generalize S[k] = d at *
    obtain ⟨dw, da, db, dn, dk, dL, dV⟩ := d
    simp only at w1 w2 w3 w4 w5
    refine AW.skip ?_
    repeat refine AW.seq ?_
    refine AW.midK [0, 1, 5, 6, 7, 8] (fun t => ∃ (q q' : Mk), t = ⟨76, [(0, slF dd S), (1, ul V), (5, bo true), (6, .ptr 1004 0), (7, .ptr 1020 0), (8, i k)], [(1004, mkB q 1005 1006), (1005, rwB q.rows), (1006, vlB q.vals), (1020, mkB q' 1021 1022), (1021, rwB q'.rows), (1022, vlB q'.vals)]⟩ ∧ Mok (997659 + 117 * (20 - (k + 1))) q ∧ Mok (997659 + 117 * (20 - (k + 1))) q' ∧ Good q ∧ Good q' ∧ Shp q q') ?_ ?_
    · refine AW.block ?_
      repeat refine AW.seq ?_
      refine AW.reg ?_
      iterate 4 refine AOL.s1 (h := ?_)
      refine AOL.callD rfl (cS) (by kernel_rfl) rfl rfl (h := ?_)
      iterate 1 refine AOL.s1 (h := ?_)
      refine AOL.nil ?_
      refine AW.kq [0, 1, 5, 6, 7, 8, 9] (h := ?_)
      repeat refine AW.seq ?_
      refine AW.reg ?_
      iterate 2 refine AOL.s1 (h := ?_)
      refine AOL.nil ?_
      refine AW.kq [0, 1, 5, 6, 7, 8, 40] (h := ?_)
      repeat refine AW.seq ?_
      refine AW.cond rfl (fun e_ => ?_) (fun e_ => ?_)
      · skip
        repeat refine AW.seq ?_
        refine AW.exit ?_
        repeat (first | refine Kseq.ex ?_ | refine Kloop.ex ?_ | refine Kblock.miss (by decide) ?_)
        refine Kblock.hit ?_
        exact ⟨m, m', rfl, Mok.mono hm (by omega), Mok.mono hm' (by omega), g, g', hs⟩
      have hsm : dL.length ≤ 20 ∧ dV.length ≤ 5 := by simpa using e_
      have tL : tok dL := ⟨by omega, w3⟩
      have c1 := obollaw12_call_c (m := m) (d := ⟨dw, da, db, dn, dk, dL, dV⟩) (Mok.mono hm (by omega)) (pk_lt g hm) w1 w2 tL hsm.2
      refine AW.skip ?_
      repeat refine AW.seq ?_
      refine AW.reg ?_
      iterate 6 refine AOL.s1 (h := ?_)
      refine AOL.nil ?_
      refine AW.kq [0, 1, 5, 6, 7, 8, 10] (h := ?_)
      repeat refine AW.seq ?_
      refine AW.reg ?_
      iterate 2 refine AOL.s1 (h := ?_)
      refine AOL.callM (l := 1004) (b := 1004) (c1) rfl (by kernel_rfl) rfl rfl rfl rfl rfl (hst := by simp only [St.drops, St.drop, mapT, mapH, kill, kills, del, St.put, ins, reduceIte, Nat.reduceAdd, Nat.reduceLT, Nat.reduceEqDiff, Bool.false_eq_true]; exact rfl) ?_
      refine AOL.nil ?_
      refine AW.kq [0, 1, 5, 6, 7, 8, 10] (h := ?_)
      repeat refine AW.seq ?_
      refine AW.reg ?_
      iterate 4 refine AOL.s1 (h := ?_)
      refine AOL.nil ?_
      refine AW.kq [0, 1, 5, 6, 7, 8, 10, 51] (h := ?_)
      repeat refine AW.seq ?_
      refine AW.midK [0, 1, 5, 6, 7, 8, 10] (fun t => ∃ (kk : Int), t = ⟨76, [(0, slF dd S), (1, ul V), (5, bo true), (6, .ptr 1004 0), (7, .ptr 1020 0), (8, i k), (10, .ptr 1160 0)], [(1004, mkB (callMk m ⟨dw, da, db, dn, dk, dL, dV⟩) 1005 1006), (1005, rwB (callMk m ⟨dw, da, db, dn, dk, dL, dV⟩).rows), (1006, vlB (callMk m ⟨dw, da, db, dn, dk, dL, dV⟩).vals), (1020, mkB m' 1021 1022), (1021, rwB m'.rows), (1022, vlB m'.vals), (1160, ⟨50, true, dd ⟨dw, da, db, dn, kk, dL, dV⟩⟩)]⟩ ∧ w64 kk) ?_ ?_
      · refine AW.cond rfl (fun f_ => ?_) (fun f_ => ?_)
        · have hkV : (k:Int) < V.length := by simpa using f_
          obtain ⟨v, hv1, hv2, hv3⟩ := at_nat hkV hV
          repeat refine AW.seq ?_
          refine AW.reg ?_
          iterate 6 refine AOL.s1 (h := ?_)
          refine AOL.nil ?_
          exact ⟨v, rfl, hv2⟩
        · skip
          refine AW.skip ?_
          exact ⟨dk, rfl, w2⟩
      rintro t ⟨kk, rfl, wk⟩
      repeat refine AW.seq ?_
      refine AW.reg ?_
      iterate 2 refine AOL.s1 (h := ?_)
      have c2 := obollaw12_call_c (m := m') (d := ⟨dw, da, db, dn, kk, dL, dV⟩) (Mok.mono hm' (by omega)) (pk_lt g' hm') w1 wk tL hsm.2
      refine AOL.callM (l := 1020) (b := 1020) (c2) rfl (by kernel_rfl) rfl rfl rfl rfl rfl (hst := by simp only [St.drops, St.drop, mapT, mapH, kill, kills, del, St.put, ins, reduceIte, Nat.reduceAdd, Nat.reduceLT, Nat.reduceEqDiff, Bool.false_eq_true]; exact rfl) ?_
      refine AOL.let 1160 (h := ?_)
      refine AOL.nil ?_
      exact ⟨_, _, rfl, call_ok (Mok.mono hm (by omega)) hsm.2, call_ok (Mok.mono hm' (by omega)) hsm.2, (call_law g (by show dL.length < _; omega)).1, (call_law g' (by show dL.length < _; omega)).1, hs.call rfl rfl rfl rfl rfl rfl⟩
    rintro t ⟨q, q', rfl, hq, hq', gq, gq', hsq⟩
    repeat refine AW.seq ?_
    skip
    refine AW.reg ?_
    iterate 3 refine AOL.s1 (h := ?_)
    refine AOL.nil ?_
    exact ⟨20 - (k + 1), by omega, k + 1, q, q', rfl, h2, rfl, hq, hq', gq, gq', hsq⟩
  · obtain ⟨v', p', r', V'⟩ := m'
    obtain rfl : m.v = v' := hs.v
    obtain rfl : m.p = p' := hs.p
    obtain rfl : m.rows = r' := hs.rows
    have lr : m.rows.length ≤ 4096 := by have := hm.2.1; omega
    have cR := obolref11_SameRank_c (g.len lr)
    repeat refine AW.seq ?_
    refine AW.exit ?_
    repeat (first | refine Kseq.ex ?_ | refine Kloop.ex ?_ | refine Kblock.miss (by decide) ?_)
    refine Kblock.hit ?_
    refine AW.kq [5, 6, 7] (h := ?_)
    repeat refine AW.seq ?_
    refine AW.reg ?_
    iterate 1 refine AOL.s1 (h := ?_)
    refine AOL.callDone (l := 1004) (b := 1004) (⟨Mok.mono hm (by omega), g.rok⟩) rfl rfl rfl rfl (hst := by simp only [St.drops, St.drop, mapT, mapH, kill, kills, del, St.put, ins, reduceIte, Nat.reduceAdd, Nat.reduceLT, Nat.reduceEqDiff, Bool.false_eq_true]; exact rfl) ?_
    iterate 6 refine AOL.s1 (h := ?_)
    refine AOL.nil ?_
    refine AW.kq [5, 7, 11] (h := ?_)
    repeat refine AW.seq ?_
    refine AW.reg ?_
    iterate 1 refine AOL.s1 (h := ?_)
    refine AOL.callDone (l := 1020) (b := 1020) (⟨Mok.mono hm' (by omega), g'.rok⟩) rfl rfl rfl rfl (hst := by simp only [St.drops, St.drop, mapT, mapH, kill, kills, del, St.put, ins, reduceIte, Nat.reduceAdd, Nat.reduceLT, Nat.reduceEqDiff, Bool.false_eq_true]; exact rfl) ?_
    iterate 6 refine AOL.s1 (h := ?_)
    refine AOL.nil ?_
    refine AW.kq [5, 11, 13] (h := ?_)
    repeat refine AW.seq ?_
    refine AW.reg ?_
    iterate 2 refine AOL.s1 (h := ?_)
    refine AOL.kq [11, 13, 71] (h := ?_)
    iterate 2 refine AOL.s1 (h := ?_)
    refine AOL.callD rfl (cR) (by kernel_rfl) rfl rfl (h := ?_)
    iterate 1 refine AOL.s1 (h := ?_)
    iterate 1 refine AOL.s1 (h := ?_)
    refine AOL.nil ?_
    refine AW.kq [4] (h := ?_)
    repeat refine AW.seq ?_
    refine AW.ret ?_
    refine ⟨_, [], rfl, HOk.nil _, ?_⟩
    rfl
end Go.Proofs.Ytiikiamdbelbjaa.E.M

