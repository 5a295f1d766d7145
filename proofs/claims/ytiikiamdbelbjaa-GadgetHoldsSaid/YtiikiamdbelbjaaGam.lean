/- GadgetHolds over E. -/
import Derived.Test.YtiikiamdbelbjaaGpo
import Derived.Test.YtiikiamdbelbjaaGai
import Derived.Test.YtiikiamdbelbjaaProg
import Derived.KernelRfl
set_option linter.unusedVariables false
set_option linter.unusedSimpArgs false
set_option maxRecDepth 10000
open Go Go.Proofs.Ytiikiamdbelbjaa.E Go.Proofs
namespace Go.Proofs.Ytiikiamdbelbjaa.E.M
theorem pk_ltg {m : Mk} (g : Good m) {k : Nat} (h : Mok k m) : 0 ≤ m.p ∧ m.p < 1000000 := by
  have := g.p0
  have := g.p1
  have := h.1
  constructor <;> omega
set_option maxHeartbeats 16000000 in
theorem obollaw12_GadgetHolds_c {S : List Dd} (lS : S.length < 9223372036854775808) (hS : ∀ d ∈ S, i64b d.what ∧ w64 d.k ∧ wT d.L ∧ d.L.length < 9223372036854775808 ∧ d.V.length < 9223372036854775808) : Fn Try.prog 7 [slF dd S] [] (fun r h_ => r = bo true) := by
  refine Fn.enter Try.func7 Try.ntmps7 rfl (h := ?_)
  have tf := tfm
  have ot_ : (false || true) = true := rfl
  have tfr := tfr
  have tfd := tfd
  have cU := obollaw12_up_c
  repeat refine AW.seq ?_
  refine AW.reg ?_
  iterate 1 refine AOL.s1 (h := ?_)
  refine AOL.nil ?_
  refine AW.kq [0] (h := ?_)
  repeat refine AW.seq ?_
  refine AW.reg ?_
  refine AOL.callD rfl (cU) (by kernel_rfl) rfl rfl (h := ?_)
  iterate 1 refine AOL.s1 (h := ?_)
  refine AOL.nil ?_
  refine AW.kq [0, 3] (h := ?_)
  repeat refine AW.seq ?_
  refine AW.reg ?_
  refine AOL.callNew (b := 1004) rfl (hst := by simp only [St.drops, St.drop, mapT, mapH, kill, kills, del, St.put, ins, reduceIte, Nat.reduceAdd, Nat.reduceLT, Nat.reduceEqDiff, Bool.false_eq_true]; exact rfl) ?_
  iterate 1 refine AOL.s1 (h := ?_)
  refine AOL.nil ?_
  refine AW.kq [0, 3, 4] (h := ?_)
  repeat refine AW.seq ?_
  refine AW.reg ?_
  iterate 1 refine AOL.s1 (h := ?_)
  refine AOL.ptrNil rfl (h := ?_)
  refine AOL.nil ?_
  refine AW.kq [0, 3, 4, 17] (h := ?_)
  repeat refine AW.seq ?_
  refine AW.cond rfl (fun c_ => ?_) (fun c_ => ?_)
  · cases c_
  refine AW.skip ?_
  repeat refine AW.seq ?_
  refine AW.reg ?_
  iterate 1 refine AOL.s1 (h := ?_)
  refine AOL.nil ?_
  refine AW.kq [0, 3, 4, 5] (h := ?_)
  repeat refine AW.seq ?_
  refine AW.reg ?_
  iterate 1 refine AOL.s1 (h := ?_)
  refine AOL.nil ?_
  refine AW.kq [0, 3, 4, 5, 6] (h := ?_)
  repeat refine AW.seq ?_
  refine AW.block ?_
  repeat refine AW.seq ?_
  refine AW.loopK [0, 3, 4, 5, 6] (fun n s => ∃ (k : Nat) (m : Mk) (w : Bool), s = ⟨94, [(0, slF dd S), (3, bo true), (4, .ptr 1004 0), (5, bo w), (6, i k)], [(1004, mkB m 1005 1006), (1005, rwB m.rows), (1006, vlB m.vals)]⟩ ∧ k ≤ 20 ∧ n = 20 - k ∧ Mok (997659 + 117 * (20 - k)) m ∧ Good m ∧ (w = true ↔ AllH m)) (20) ?_ ?_
  · exact ⟨0, mk0, true, rfl, by decide, rfl, mok0, good0, ⟨fun _ => allh0, fun _ => rfl⟩⟩
  rintro n s ⟨k, m, w, rfl, hk, rfl, hm, g, hw⟩
  repeat refine AW.seq ?_
  refine AW.reg ?_
  iterate 5 refine AOL.s1 (h := ?_)
  refine AOL.kq [0, 3, 4, 5, 6, 22] (h := ?_)
  refine AOL.and 22 25 (os' := ?_) (x := ?_) (h1 := ?_) (h0 := ?_) (h := ?_)
  rotate_left 2
  iterate 2
    · intro hb_ K' hK; (iterate 3 refine AOL.s1 (h := ?_)); refine AOL.kq [0, 3, 4, 5, 6, 25] (h := ?_); exact hK
  refine AOL.nil ?_
  refine AW.kq [0, 3, 4, 5, 6, 25] (h := ?_)
  repeat refine AW.seq ?_
  refine AW.cond rfl (fun c_ => ?_) (fun c_ => ?_)
  · have hc : k < S.length ∧ k < 20 := by simp at c_; omega
    obtain ⟨h1, h2⟩ := hc
    have k0 : (0:Int) ≤ k := by omega
    have k1 : (k:Int) < S.length := by omega
    have hwr := incq h2 (by decide)
    have hd : (fm dd S).drop (k * 7) = i S[k].what :: i S[k].a :: i S[k].b :: i S[k].n :: u S[k].k :: slF tm S[k].L :: il S[k].V :: fm dd (S.drop (k + 1)) := fm_at dd_len h1
    obtain ⟨w1, w2, w3, w4, w5⟩ := hS S[k] (List.getElem_mem h1)
    have cS := obollaw12_small_c (d := S[k]) w4 w5
    clear c_
    generalize S[k] = d at *
    obtain ⟨dw, da, db, dn, dk, dL, dV⟩ := d
    simp only at w1 w2 w3 w4 w5
    have wvm := g.wV
    have nem := g.ne
    have cP := obollaw12_pick_c w1
    refine AW.skip ?_
    repeat refine AW.seq ?_
    refine AW.midK [0, 3, 4, 5, 6] (fun t => ∃ (q : Mk) (x : Bool), t = ⟨94, [(0, slF dd S), (3, bo true), (4, .ptr 1004 0), (5, bo x), (6, i k)], [(1004, mkB q 1005 1006), (1005, rwB q.rows), (1006, vlB q.vals)]⟩ ∧ Mok (997659 + 117 * (20 - (k + 1))) q ∧ Good q ∧ (x = true ↔ AllH q)) ?_ ?_
    · refine AW.block ?_
      repeat refine AW.seq ?_
      refine AW.reg ?_
      iterate 4 refine AOL.s1 (h := ?_)
      refine AOL.callD rfl (cS) (by kernel_rfl) rfl rfl (h := ?_)
      iterate 1 refine AOL.s1 (h := ?_)
      refine AOL.nil ?_
      refine AW.kq [0, 3, 4, 5, 6, 7] (h := ?_)
      repeat refine AW.seq ?_
      refine AW.reg ?_
      iterate 2 refine AOL.s1 (h := ?_)
      refine AOL.nil ?_
      refine AW.kq [0, 3, 4, 5, 6, 34] (h := ?_)
      repeat refine AW.seq ?_
      refine AW.cond rfl (fun e_ => ?_) (fun e_ => ?_)
      · skip
        repeat refine AW.seq ?_
        refine AW.exit ?_
        repeat (first | refine Kseq.ex ?_ | refine Kloop.ex ?_ | refine Kblock.miss (by decide) ?_)
        refine Kblock.hit ?_
        exact ⟨m, w, rfl, Mok.mono hm (by omega), g, hw⟩
      have hsm : dL.length ≤ 20 ∧ dV.length ≤ 5 := by simpa using e_
      have tL : tok dL := ⟨by omega, w3⟩
      have c1 := obollaw12_call_c (m := m) (d := ⟨dw, da, db, dn, dk, dL, dV⟩) (Mok.mono hm (by omega)) (pk_ltg g hm) w1 w2 tL hsm.2
      refine AW.skip ?_
      repeat refine AW.seq ?_
      refine AW.reg ?_
      iterate 6 refine AOL.s1 (h := ?_)
      refine AOL.nil ?_
      refine AW.kq [0, 3, 4, 5, 6, 8] (h := ?_)
      repeat refine AW.seq ?_
      refine AW.reg ?_
      iterate 2 refine AOL.s1 (h := ?_)
      refine AOL.callD rfl (cP) (by kernel_rfl) rfl rfl (h := ?_)
      iterate 1 refine AOL.s1 (h := ?_)
      refine AOL.nil ?_
      refine AW.kq [0, 3, 4, 5, 6, 8, 9] (h := ?_)
      repeat refine AW.seq ?_
      refine AW.reg ?_
      iterate 2 refine AOL.s1 (h := ?_)
      refine AOL.nil ?_
      refine AW.kq [0, 3, 4, 5, 6, 8, 9, 43] (h := ?_)
      repeat refine AW.seq ?_
      refine AW.midK [0, 3, 4, 5, 6, 8, 9] (fun t => ∃ (x : Bool), t = ⟨94, [(0, slF dd S), (3, bo true), (4, .ptr 1004 0), (5, bo x), (6, i k), (8, .ptr 1128 0), (9, i (pkF dw))], [(1004, mkB m 1005 1006), (1005, rwB m.rows), (1006, vlB m.vals), (1128, ⟨50, true, dd ⟨dw, da, db, dn, dk, dL, dV⟩⟩)]⟩ ∧ (x = true ↔ w = true ∧ (pkF dw = 6 → valM m.vals da = valM m.vals db))) ?_ ?_
      · refine AW.cond rfl (fun f_ => ?_) (fun f_ => ?_)
        · have e6 : id (pkF dw = 6) := by simpa using f_
          clear f_
          cases w with
          | false =>
            repeat refine AW.seq ?_
            refine AW.drw 9 [] (by kernel_rfl) (h := ?_)
            iterate 9 refine ADL.dm 1 (h := ?_)
            refine ADL.done hmix rfl rfl (hT := ?_)
            iterate 4 refine AOL.s1 (h := ?_)
            refine AOL.nil ?_
            exact ⟨false, rfl, by simp⟩
          | true =>
            repeat refine AW.seq ?_
            refine AW.drw 9 [] (by kernel_rfl) (h := ?_)
            iterate 5 refine ADL.dm 1 (h := ?_)
            refine ADL.callF rfl (valF_c wvm nem rfl rfl rfl) (by kernel_rfl) (h := ?_)
            iterate 3 refine ADL.dm 1 (h := ?_)
            refine ADL.done hmix rfl rfl (hT := ?_)
            refine AOL.callF rfl (valF_c wvm nem rfl rfl rfl) (by kernel_rfl) (h := ?_)
            iterate 3 refine AOL.s1 (h := ?_)
            refine AOL.nil ?_
            exact ⟨_, rfl, by rw [show pkF dw = 6 from e6]; simp⟩
        · have e6 : pkF dw ≠ 6 := by simpa using f_
          clear f_
          refine AW.skip ?_
          exact ⟨w, rfl, by simp [e6]⟩
      rintro t ⟨x, rfl, hx1⟩
      repeat refine AW.seq ?_
      refine AW.reg ?_
      iterate 2 refine AOL.s1 (h := ?_)
      refine AOL.nil ?_
      refine AW.kq [0, 3, 4, 5, 6, 8, 57] (h := ?_)
      repeat refine AW.seq ?_
      refine AW.midK [0, 3, 4, 5, 6, 8] (fun t => ∃ (y : Bool), t = ⟨94, [(0, slF dd S), (3, bo true), (4, .ptr 1004 0), (5, bo y), (6, i k), (8, .ptr 1128 0)], [(1004, mkB m 1005 1006), (1005, rwB m.rows), (1006, vlB m.vals), (1128, ⟨50, true, dd ⟨dw, da, db, dn, dk, dL, dV⟩⟩)]⟩ ∧ (y = true ↔ x = true ∧ (pkF dw = 4 → valM m.vals da / 2 ^ bitN dn = 0))) ?_ ?_
      · refine AW.cond rfl (fun f_ => ?_) (fun f_ => ?_)
        · have e4 : id (pkF dw = 4) := by simpa using f_
          clear f_
          repeat refine AW.seq ?_
          refine AW.reg ?_
          iterate 3 refine AOL.s1 (h := ?_)
          refine AOL.nil ?_
          refine AW.kq [0, 3, 4, 5, 6, 8, 10] (h := ?_)
          repeat refine AW.seq ?_
          refine AW.reg ?_
          iterate 3 refine AOL.s1 (h := ?_)
          refine AOL.kq [0, 3, 4, 5, 6, 8, 10, 62] (h := ?_)
          refine AOL.or 62 65 (os' := ?_) (x := ?_) (h1 := ?_) (h0 := ?_) (h := ?_)
          rotate_left 2
          iterate 2
            · intro hb_ K' hK; (iterate 3 refine AOL.s1 (h := ?_)); refine AOL.kq [0, 3, 4, 5, 6, 8, 10, 65] (h := ?_); exact hK
          refine AOL.nil ?_
          refine AW.kq [0, 3, 4, 5, 6, 8, 10, 65] (h := ?_)
          repeat refine AW.seq ?_
          refine AW.midK [0, 3, 4, 5, 6, 8, 10] (fun t => t = ⟨94, [(0, slF dd S), (3, bo true), (4, .ptr 1004 0), (5, bo x), (6, i k), (8, .ptr 1128 0), (10, i (bitN dn))], [(1004, mkB m 1005 1006), (1005, rwB m.rows), (1006, vlB m.vals), (1128, ⟨50, true, dd ⟨dw, da, db, dn, dk, dL, dV⟩⟩)]⟩) ?_ ?_
          · refine AW.cond rfl (fun b_ => ?_) (fun b_ => ?_)
            · have hb : bitN dn = 0 := if_pos (by simpa using b_)
              rw [hb]
              repeat refine AW.seq ?_
              refine AW.reg ?_
              iterate 1 refine AOL.s1 (h := ?_)
              refine AOL.nil ?_
              exact rfl
            · have hb : (bitN dn : Int) = dn := by
                have h : bitN dn = dn.toNat := if_neg (by simp at b_; omega)
                rw [h]; simp at b_; omega
              rw [hb]
              refine AW.skip ?_
              exact rfl
          rintro t rfl
          have hvw : w64 (valM m.vals da) := by have := valM_lt g da; exact ⟨this.1, by omega⟩
          have hsh := (shr_b hvw (show bitN dn ≤ 64 by have := bitN_le dn; omega)).1
          have jn : ¬ ((bitN dn : Nat) : Int) < 0 := by omega
          repeat refine AW.seq ?_
          refine AW.reg ?_
          iterate 2 refine AOL.s1 (h := ?_)
          refine AOL.kq [0, 3, 4, 6, 8, 10, 67] (h := ?_)
          refine AOL.and 67 75 (os' := ?_) (x := ?_) (h1 := ?_) (h0 := ?_) (h := ?_)
          rotate_left 2
          iterate 2
            · intro hb_ K' hK; (first | (iterate 8 refine AOL.s1 (h := ?_)) | ((iterate 3 refine AOL.s1 (h := ?_)); refine AOL.callF rfl (valF_c wvm nem rfl rfl rfl) (by kernel_rfl) (h := ?_); (iterate 4 refine AOL.s1 (h := ?_)))); refine AOL.kq [0, 3, 4, 6, 8, 10, 75] (h := ?_); exact hK
          iterate 1 refine AOL.s1 (h := ?_)
          refine AOL.nil ?_
          exact ⟨_, rfl, by rw [show pkF dw = 4 from e4]; simp⟩
        · have e4 : pkF dw ≠ 4 := by simpa using f_
          clear f_
          refine AW.skip ?_
          exact ⟨x, rfl, by simp [e4]⟩
      rintro t ⟨y, rfl, hy1⟩
      repeat refine AW.seq ?_
      refine AW.reg ?_
      iterate 2 refine AOL.s1 (h := ?_)
      refine AOL.callM (l := 1004) (b := 1004) (c1) rfl (by kernel_rfl) rfl rfl rfl rfl rfl (hst := by simp only [St.drops, St.drop, mapT, mapH, kill, kills, del, St.put, ins, reduceIte, Nat.reduceAdd, Nat.reduceLT, Nat.reduceEqDiff, Bool.false_eq_true]; exact rfl) ?_
      refine AOL.let 1128 (h := ?_)
      refine AOL.nil ?_
      refine ⟨_, y, rfl, call_ok (Mok.mono hm (by omega)) hsm.2, (call_law g (by show dL.length < _; omega)).1, ?_⟩
      rw [(call_law g (d := ⟨dw, da, db, dn, dk, dL, dV⟩) (by show dL.length < _; omega)).2, hy1, hx1, hw, and_assoc]
      exact Iff.rfl
    rintro t ⟨q, x, rfl, hq, gq, hx⟩
    repeat refine AW.seq ?_
    skip
    refine AW.reg ?_
    iterate 3 refine AOL.s1 (h := ?_)
    refine AOL.nil ?_
    exact ⟨20 - (k + 1), by omega, k + 1, q, x, rfl, h2, rfl, hq, gq, hx⟩
  · have lr : m.rows.length ≤ 4096 := by have := hm.2.1; omega
    have lv : m.vals.length ≤ 4096 := by have := hm.1; omega
    have cH := rank_Holds_c (s := sysM m) (V := m.vals) (g.len lr) g.wR g.wV (by omega)
    have hh := holds_good g lv lr
    have hfz : AV.sl m.vals.length (sub 0 (m.vals.length * 1) (fm u1 m.vals)) = ul m.vals := by rw [sub_all (by rw [fm_len u1_len]; exact Nat.le_refl _)]
    repeat refine AW.seq ?_
    refine AW.exit ?_
    repeat (first | refine Kseq.ex ?_ | refine Kloop.ex ?_ | refine Kblock.miss (by decide) ?_)
    refine Kblock.hit ?_
    refine AW.kq [3, 4, 5] (h := ?_)
    repeat refine AW.seq ?_
    refine AW.reg ?_
    iterate 1 refine AOL.s1 (h := ?_)
    refine AOL.callDone (l := 1004) (b := 1004) (⟨Mok.mono hm (by omega), g.rok⟩) rfl rfl rfl rfl (hst := by simp only [St.drops, St.drop, mapT, mapH, kill, kills, del, St.put, ins, reduceIte, Nat.reduceAdd, Nat.reduceLT, Nat.reduceEqDiff, Bool.false_eq_true]; exact rfl) ?_
    iterate 6 refine AOL.s1 (h := ?_)
    refine AOL.nil ?_
    refine AW.kq [3, 5, 11, 12] (h := ?_)
    refine AW.fz 1007 rfl (fun h => by cases h) (h := ?_)
    rw [hfz]
    clear hfz
    repeat refine AW.seq ?_
    refine AW.reg ?_
    iterate 2 refine AOL.s1 (h := ?_)
    cases w with
    | true =>
      replace cH := Fn.mono (R' := fun r _ => r = nil_) cH (fun r _ e => e.trans (hh.1.2 (hw.1 rfl)))
      refine AOL.callD rfl (cH) (by kernel_rfl) rfl rfl (h := ?_)
      iterate 1 refine AOL.s1 (h := ?_)
      refine AOL.nil ?_
      refine AW.kq [3, 5, 13] (h := ?_)
      repeat refine AW.seq ?_
      refine AW.reg ?_
      iterate 2 refine AOL.s1 (h := ?_)
      iterate 6 refine AOL.s1 (h := ?_)
      refine AOL.nil ?_
      refine AW.kq [2] (h := ?_)
      repeat refine AW.seq ?_
      refine AW.ret ?_
      refine ⟨_, [], rfl, HOk.nil _, ?_⟩
      rfl
    | false =>
    have hj : ∃ j : Nat, holdsF (sysM m) m.vals = spot j 8 := by
      rcases hh.2 with h | h
      · have := hw.2 (hh.1.1 h); cases this
      · exact h
    obtain ⟨j, hj⟩ := hj
    replace cH := Fn.mono (R' := fun r _ => r = spot (j : Int) 8) cH (fun r _ e => e.trans hj)
    refine AOL.callD rfl (cH) (by kernel_rfl) rfl rfl (h := ?_)
    iterate 1 refine AOL.s1 (h := ?_)
    refine AOL.nil ?_
    refine AW.kq [3, 5, 13] (h := ?_)
    repeat refine AW.seq ?_
    refine AW.reg ?_
    iterate 2 refine AOL.s1 (h := ?_)
    refine AOL.kq [5, 13, 88] (h := ?_)
    iterate 5 refine AOL.s1 (h := ?_)
    iterate 1 refine AOL.s1 (h := ?_)
    refine AOL.nil ?_
    refine AW.kq [2] (h := ?_)
    repeat refine AW.seq ?_
    refine AW.ret ?_
    refine ⟨_, [], rfl, HOk.nil _, ?_⟩
    rfl
end Go.Proofs.Ytiikiamdbelbjaa.E.M

