/- Texts joined: ZVZla, ZVZlc, ZVCfi, ZVCnu, ZVGah, ZVCmd, ZVGpl, ZVGpm, ZVGpn, ZVGpo, ZVGpq. -/
import Derived.Test.YtngphcdhdllnnaaGreatZW9
import Derived.Test.YtngphcdhdllnnaaGreatProg
import Derived.KernelRfl
import Derived.Test.YtngphcdhdllnnaaGreatZW5
import Derived.Test.YtngphcdhdllnnaaGreatZW8
import Derived.Test.YtngphcdhdllnnaaGreatZW7
section
/- obollaw18: what the law makes by a maker: contracts over E. -/
set_option linter.unusedVariables false
set_option linter.unusedSimpArgs false
set_option maxRecDepth 10000
open Go Go.Proofs.YtngphcdhdllnnaaGreat.E Go.Proofs
namespace Go.Proofs.YtngphcdhdllnnaaGreat.E.M
set_option maxHeartbeats 4000000 in
theorem obollaw18_linear_c {m : Mk} {k : Int} {V : List Int} (hm : Mok 2 m) (hk : w64 k) (lV : V.length < 1000) : Fn Tryz.prog 17 [.ptr 0 0, u k, il V] [(0, mkB m 1 2), (1, rwB m.rows), (2, vlB m.vals)] (Tells (i m.vals.length) (mkOut (linM m (sumS 0 k V)))) := by
  refine Fn.enter Tryz.func17 Tryz.ntmps17 rfl (h := ?_)
  have tf := tfm
  have ot_ : (false || true) = true := rfl
  have tfr := tfr
  refine AW.mv 1 1001 (h := ?_)
  refine AW.mv 2 1002 (h := ?_)
  repeat refine AW.seq ?_
  refine AW.reg ?_
  iterate 1 refine AOL.s1 (h := ?_)
  refine AOL.nil ?_
  refine AW.kq [0, 1, 2] (h := ?_)
  repeat refine AW.seq ?_
  refine AW.reg ?_
  iterate 1 refine AOL.s1 (h := ?_)
  refine AOL.nil ?_
  refine AW.kq [0, 1, 2, 7] (h := ?_)
  repeat refine AW.seq ?_
  refine AW.reg ?_
  iterate 1 refine AOL.s1 (h := ?_)
  refine AOL.nil ?_
  refine AW.kq [0, 1, 2, 7, 8] (h := ?_)
  repeat refine AW.seq ?_
  refine AW.block ?_
  repeat refine AW.seq ?_
  refine AW.born 7 9001 80 2 (.inl rfl) (h := ?_)
  refine AW.loopK [0, 1, 2, 7, 8] (fun n s => ∃ (j : Nat) (l : List Tm) (r : List Int), s = ⟨31, [(0, .ptr 0 0), (1, u k), (2, il V), (7, .ref 9001 0 j 2), (8, i j)], [(0, mkB m 1001 1002), (1001, rwB m.rows), (1002, vlB m.vals), (9001, ⟨80, false, fm tm l⟩)]⟩ ∧ V.drop j = r ∧ j ≤ V.length ∧ n = r.length ∧ l.length = j ∧ wT l ∧ l ++ sumS j k r = sumS 0 k V) (V.length) ?_ ?_
  · exact ⟨0, [], V, rfl, rfl, Nat.zero_le _, rfl, rfl, (fun t ht => by cases ht), rfl⟩
  rintro n s ⟨j, l, r, rfl, hr, hjl, rfl, hl, hlw, hs⟩
  repeat refine AW.seq ?_
  refine AW.reg ?_
  iterate 4 refine AOL.s1 (h := ?_)
  refine AOL.nil ?_
  refine AW.kq [0, 1, 2, 7, 8, 13] (h := ?_)
  repeat refine AW.seq ?_
  refine AW.cond rfl (fun c_ => ?_) (fun c_ => ?_)
  · obtain ⟨z, r, rfl⟩ := ends_cons hr hjl (by simpa using c_)
    obtain ⟨hlt, hr', ht⟩ := dconsq hr
    have hw := incq hlt (by omega)
    have k0 : (0:Int) ≤ j := by omega
    have k1 : (j:Int) < V.length := by omega
    have hd1 : (fm i1 V).drop (j * 1) = i z :: fm i1 r := fm_drop i1_len hr
    have hd' : (fm i1 V).drop j = i z :: fm i1 r := by simpa using hd1
    clear hd1
    refine AW.skip ?_
    repeat refine AW.seq ?_
    refine AW.block ?_
    repeat refine AW.seq ?_
    refine AW.reg ?_
    iterate 2 refine AOL.s1 (h := ?_)
    refine AOL.nil ?_
    refine AW.kq [0, 1, 2, 7, 8, 9] (h := ?_)
    repeat refine AW.seq ?_
    refine AW.reg ?_
    iterate 2 refine AOL.s1 (h := ?_)
    refine AOL.nil ?_
    refine AW.kq [0, 1, 2, 7, 8, 9, 18] (h := ?_)
    repeat refine AW.seq ?_
    refine AW.midK [0, 1, 2, 7, 8, 9] (fun t => ∃ (b : Int), t = ⟨31, [(0, .ptr 0 0), (1, u k), (2, il V), (7, .ref 9001 0 j 2), (8, i j), (9, u b)], [(0, mkB m 1001 1002), (1001, rwB m.rows), (1002, vlB m.vals), (9001, ⟨80, false, fm tm l⟩)]⟩ ∧ b = (if j = 0 then 1 else k)) ?_ ?_
    · refine AW.cond rfl (fun e_ => ?_) (fun e_ => ?_)
      · skip
        repeat refine AW.seq ?_
        refine AW.reg ?_
        iterate 1 refine AOL.s1 (h := ?_)
        refine AOL.nil ?_
        exact ⟨_, rfl, (if_pos (by simp at e_; omega)).symm⟩
      · skip
        refine AW.skip ?_
        exact ⟨_, rfl, (if_neg (by simp at e_; omega)).symm⟩
    rintro t ⟨b, rfl, hb⟩
    have w1 : w64 b := by
      rw [hb]; split
      · exact ⟨by decide, by decide⟩
      · exact hk
    have ll : (fm tm l).length = j * 2 := by rw [fm_len tm_len, hl]
    have o1 : (j + 1) * 16 ≤ 140737488355328 := by omega
    have o3 : j ≤ 4611686018427387903 := by omega
    have o2 : j + 1 ≤ 4611686018427387904 := by omega
    have hb' : id (b = if j = 0 then 1 else k) := hb
    have hs' : id (l ++ sumS j k (z :: r) = sumS 0 k V) := hs
    clear hs hb hr
    repeat refine AW.seq ?_
    refine AW.reg ?_
    iterate 10 refine AOL.s1 (h := ?_)
    refine AOL.nil ?_
    repeat refine AW.seq ?_
    refine AW.let 1416 (h := ?_)
    refine AW.reg ?_
    iterate 3 refine AOL.s1 (h := ?_)
    refine AOL.nil ?_
    refine ⟨r.length, by simp, j + 1, l ++ [⟨z, b⟩], r, ?_, hr', hlt, rfl, by rw [List.length_append, hl]; rfl, ?_, ?_⟩
    · rw [fmt_snoc]; rfl
    · intro x hx
      rcases List.mem_append.1 hx with hx | hx
      · exact hlw x hx
      · simp only [List.mem_singleton] at hx; subst hx; exact w1
    · have e : b = if j = 0 then 1 else k := hb'
      rw [List.append_assoc, e]; exact hs'
  · obtain rfl := ends_nil hr (by simpa using c_)
    have hs' : l = sumS 0 k V := by simpa [sumS] using hs
    rw [← hs']
    clear hs hs'
    have hfl : AV.sl j (sub 0 (j * 2) (fm tm l)) = slF tm l := by rw [← hl, sub_all (by rw [fm_len tm_len]; exact Nat.le_refl _)]
    refine AW.fz 9001 rfl (fun h => by cases h) (h := ?_)
    rw [hfl]
    clear hfl
    have tl : tok l := ⟨by omega, hlw⟩
    clear hl
    repeat refine AW.seq ?_
    refine AW.exit ?_
    repeat (first | refine Kseq.ex ?_ | refine Kloop.ex ?_ | refine Kblock.miss (by decide) ?_)
    refine Kblock.hit ?_
    refine AW.kq [0, 7] (h := ?_)
    repeat refine AW.seq ?_
    refine AW.reg ?_
    iterate 2 refine AOL.s1 (h := ?_)
    refine AOL.callM (l := 0) (b := 1000) (gadget_Maker_Linear_c hm tl) rfl (by kernel_rfl) rfl rfl rfl rfl rfl (hst := by simp only [St.drops, St.drop, mapT, mapH, kill, kills, del, St.put, ins, reduceIte, Nat.reduceAdd, Nat.reduceLT, Nat.reduceEqDiff, Bool.false_eq_true]; exact rfl) ?_
    iterate 1 refine AOL.s1 (h := ?_)
    refine AOL.nil ?_
    refine AW.kq [6] (h := ?_)
    repeat refine AW.seq ?_
    refine AW.ret ?_
    refine ⟨_, mkOut (linM m l), rfl, ?_, ?_⟩
    · exact fun p hp => hp
    · exact Tells.self
set_option maxHeartbeats 16000000 in
theorem obollaw18_input_c {m : Mk} {k v o rh a : Int} {p : List Int} {ro si en an : Int} (o0 : Mok 900 m) (wk : w64 k) (wv : w64 v) (wo : w64 o) (wr : w64 rh) (ha : 0 ≤ a ∧ a < 9223372036854775808) (hp : wV p) (lp : p.length ≤ 16) : Fn Tryz.prog 12 [.ptr 0 0, .agg [u k, u v, u o, u rh, i a, ul p], i ro, i si, i en, i an] [(0, mkB m 1 2), (1, rwB m.rows), (2, vlB m.vals)] (Tells (i (freshM m k).vals.length) (mkOut (inpM m k v o rh a p p.length ro si en an))) := by
  refine Fn.enter Tryz.func12 Tryz.ntmps12 rfl (h := ?_)
  have tf := tfm
  have ot_ : (false || true) = true := rfl
  have tf1 := tfn
  have tfr := tfr
  have wa : w64 a := ⟨ha.1, by omega⟩
  have ea : IntKind.u64.wrap a = a := i64_o ha.1 ha.2
  obtain ⟨q1, h_q1⟩ : ∃ x, x = freshM m k := ⟨_, rfl⟩
  obtain ⟨v0, h_v0⟩ : ∃ x : Int, x = (m.vals.length : Int) := ⟨_, rfl⟩
  have c1 := gadget_Maker_Private_c (m := m) (x := k) (Mok.mono o0 (by decide)) wk
  rw [← h_q1, ← h_v0] at c1
  have o1 : Mok 899 q1 := by rw [h_q1]; exact Mok.fresh (Mok.mono o0 (by decide)) _
  replace h_q1 : id (q1 = freshM m k) := h_q1
  replace h_v0 : id (v0 = (m.vals.length : Int)) := h_v0
  obtain ⟨q2, h_q2⟩ : ∃ x, x = freshM q1 v := ⟨_, rfl⟩
  obtain ⟨v1, h_v1⟩ : ∃ x : Int, x = (q1.vals.length : Int) := ⟨_, rfl⟩
  have c2 := gadget_Maker_Private_c (m := q1) (x := v) (Mok.mono o1 (by decide)) wv
  rw [← h_q2, ← h_v1] at c2
  have o2 : Mok 898 q2 := by rw [h_q2]; exact Mok.fresh (Mok.mono o1 (by decide)) _
  replace h_q2 : id (q2 = freshM q1 v) := h_q2
  replace h_v1 : id (v1 = (q1.vals.length : Int)) := h_v1
  obtain ⟨q3, h_q3⟩ : ∃ x, x = freshM q2 o := ⟨_, rfl⟩
  obtain ⟨v2, h_v2⟩ : ∃ x : Int, x = (q2.vals.length : Int) := ⟨_, rfl⟩
  have c3 := gadget_Maker_Private_c (m := q2) (x := o) (Mok.mono o2 (by decide)) wo
  rw [← h_q3, ← h_v2] at c3
  have o3 : Mok 897 q3 := by rw [h_q3]; exact Mok.fresh (Mok.mono o2 (by decide)) _
  replace h_q3 : id (q3 = freshM q2 o) := h_q3
  replace h_v2 : id (v2 = (q2.vals.length : Int)) := h_v2
  obtain ⟨q4, h_q4⟩ : ∃ x, x = freshM q3 rh := ⟨_, rfl⟩
  obtain ⟨v3, h_v3⟩ : ∃ x : Int, x = (q3.vals.length : Int) := ⟨_, rfl⟩
  have c4 := gadget_Maker_Private_c (m := q3) (x := rh) (Mok.mono o3 (by decide)) wr
  rw [← h_q4, ← h_v3] at c4
  have o4 : Mok 896 q4 := by rw [h_q4]; exact Mok.fresh (Mok.mono o3 (by decide)) _
  replace h_q4 : id (q4 = freshM q3 rh) := h_q4
  replace h_v3 : id (v3 = (q3.vals.length : Int)) := h_v3
  obtain ⟨q5, h_q5⟩ : ∃ x, x = freshM q4 a := ⟨_, rfl⟩
  obtain ⟨v4, h_v4⟩ : ∃ x : Int, x = (q4.vals.length : Int) := ⟨_, rfl⟩
  have c5 := gadget_Maker_Private_c (m := q4) (x := a) (Mok.mono o4 (by decide)) wa
  rw [← h_q5, ← h_v4] at c5
  have o5 : Mok 895 q5 := by rw [h_q5]; exact Mok.fresh (Mok.mono o4 (by decide)) _
  replace h_q5 : id (q5 = freshM q4 a) := h_q5
  replace h_v4 : id (v4 = (q4.vals.length : Int)) := h_v4
  refine AW.mv 1 1001 (h := ?_)
  refine AW.mv 2 1002 (h := ?_)
  repeat refine AW.seq ?_
  refine AW.reg ?_
  iterate 2 refine AOL.s1 (h := ?_)
  refine AOL.nil ?_
  refine AW.kq [0, 2, 3, 4, 5, 7] (h := ?_)
  repeat refine AW.seq ?_
  refine AW.reg ?_
  iterate 3 refine AOL.s1 (h := ?_)
  refine AOL.callM (l := 0) (b := 1000) (c1) rfl (by kernel_rfl) rfl rfl rfl rfl rfl (hst := by simp only [St.drops, St.drop, mapT, mapH, kill, kills, del, St.put, ins, reduceIte, Nat.reduceAdd, Nat.reduceLT, Nat.reduceEqDiff, Bool.false_eq_true]; exact rfl) ?_
  iterate 1 refine AOL.s1 (h := ?_)
  refine AOL.nil ?_
  refine AW.kq [0, 2, 3, 4, 5, 7, 13] (h := ?_)
  repeat refine AW.seq ?_
  refine AW.reg ?_
  iterate 4 refine AOL.s1 (h := ?_)
  refine AOL.callM (l := 0) (b := 1000) (c2) rfl (by kernel_rfl) rfl rfl rfl rfl rfl (hst := by simp only [St.drops, St.drop, mapT, mapH, kill, kills, del, St.put, ins, reduceIte, Nat.reduceAdd, Nat.reduceLT, Nat.reduceEqDiff, Bool.false_eq_true]; exact rfl) ?_
  iterate 1 refine AOL.s1 (h := ?_)
  refine AOL.nil ?_
  refine AW.kq [0, 2, 3, 4, 5, 7, 13, 14] (h := ?_)
  repeat refine AW.seq ?_
  refine AW.reg ?_
  iterate 4 refine AOL.s1 (h := ?_)
  refine AOL.callM (l := 0) (b := 1000) (c3) rfl (by kernel_rfl) rfl rfl rfl rfl rfl (hst := by simp only [St.drops, St.drop, mapT, mapH, kill, kills, del, St.put, ins, reduceIte, Nat.reduceAdd, Nat.reduceLT, Nat.reduceEqDiff, Bool.false_eq_true]; exact rfl) ?_
  iterate 1 refine AOL.s1 (h := ?_)
  refine AOL.nil ?_
  refine AW.kq [0, 2, 3, 4, 5, 7, 13, 14, 15] (h := ?_)
  repeat refine AW.seq ?_
  refine AW.reg ?_
  iterate 4 refine AOL.s1 (h := ?_)
  refine AOL.callM (l := 0) (b := 1000) (c4) rfl (by kernel_rfl) rfl rfl rfl rfl rfl (hst := by simp only [St.drops, St.drop, mapT, mapH, kill, kills, del, St.put, ins, reduceIte, Nat.reduceAdd, Nat.reduceLT, Nat.reduceEqDiff, Bool.false_eq_true]; exact rfl) ?_
  iterate 1 refine AOL.s1 (h := ?_)
  refine AOL.nil ?_
  refine AW.kq [0, 2, 3, 4, 5, 7, 13, 14, 15, 16] (h := ?_)
  repeat refine AW.seq ?_
  refine AW.reg ?_
  iterate 4 refine AOL.s1 (h := ?_)
  refine AOL.callM (l := 0) (b := 1000) (c5) rfl (by kernel_rfl) rfl rfl rfl rfl rfl (hst := by simp only [St.drops, St.drop, mapT, mapH, kill, kills, del, St.put, ins, reduceIte, Nat.reduceAdd, Nat.reduceLT, Nat.reduceEqDiff, Bool.false_eq_true]; exact rfl) ?_
  iterate 1 refine AOL.s1 (h := ?_)
  refine AOL.nil ?_
  refine AW.kq [0, 2, 3, 4, 5, 7, 13, 14, 15, 16, 17] (h := ?_)
  repeat refine AW.seq ?_
  refine AW.reg ?_
  iterate 1 refine AOL.s1 (h := ?_)
  refine AOL.nil ?_
  refine AW.kq [0, 2, 3, 4, 5, 7, 13, 14, 15, 16, 17, 18] (h := ?_)
  repeat refine AW.seq ?_
  refine AW.reg ?_
  iterate 1 refine AOL.s1 (h := ?_)
  refine AOL.nil ?_
  refine AW.kq [0, 2, 3, 4, 5, 7, 13, 14, 15, 16, 17, 18, 19] (h := ?_)
  repeat refine AW.seq ?_
  refine AW.block ?_
  repeat refine AW.seq ?_
  refine AW.born 18 9003 3 1 (.inl rfl) (h := ?_)
  refine AW.loopK [0, 2, 3, 4, 5, 7, 13, 14, 15, 16, 17, 18, 19] (fun n' s => ∃ (j : Nat) (q : Mk) (l : List Int) (r : List Int), s = ⟨172, [(0, .ptr 0 0), (2, i ro), (3, i si), (4, i en), (5, i an), (7, .ptr 1112 0), (13, i v0), (14, i v1), (15, i v2), (16, i v3), (17, i v4), (18, .ref 9003 0 j 1), (19, i j)], [(0, mkB q 1001 1002), (1001, rwB q.rows), (1002, vlB q.vals), (1112, ⟨27, true, [u k, u v, u o, u rh, i a, ul p]⟩), (9003, ⟨3, false, fm i1 l⟩)]⟩ ∧ p.drop j = r ∧ j ≤ p.length ∧ n' = r.length ∧ l.length = j ∧ Mok (r.length + 879) q ∧ id (pthS r q l = pthS p q5 []) ∧ id (n' = n')) (p.length) ?_ ?_
  · exact ⟨0, q5, [], p, rfl, rfl, Nat.zero_le _, rfl, rfl, Mok.mono o5 (by omega), rfl, rfl⟩
  rintro n' s ⟨j, q, l, r, rfl, hr, hjl, rfl, hl, oq, hs, _⟩
  repeat refine AW.seq ?_
  refine AW.reg ?_
  iterate 5 refine AOL.s1 (h := ?_)
  refine AOL.nil ?_
  refine AW.kq [0, 2, 3, 4, 5, 7, 13, 14, 15, 16, 17, 18, 19, 62] (h := ?_)
  repeat refine AW.seq ?_
  refine AW.cond rfl (fun c_ => ?_) (fun c_ => ?_)
  · obtain ⟨z, r, rfl⟩ := ends_cons hr hjl (by simpa using c_)
    obtain ⟨hlt, hr', hz⟩ := dconsq hr
    have hw := incq hlt (by omega)
    have k0 : (0:Int) ≤ j := by omega
    have k1 : (j:Int) < p.length := by omega
    have hd1 : (fm u1 p).drop (j * 1) = u z :: fm u1 r := fm_drop u1_len hr
    have hd' : (fm u1 p).drop j = u z :: fm u1 r := by simpa using hd1
    clear hd1 hr
    have wz : w64 z := hp z (List.mem_of_getElem? hz)
    have ll : (fm i1 l).length = j := by rw [fm_len i1_len, Nat.mul_one, hl]
    have o1 : (j + 1) * 8 ≤ 140737488355328 := by omega
    have o3 : j ≤ 4611686018427387903 := by omega
    have o2 : j + 1 ≤ 4611686018427387904 := by omega
    have cq := gadget_Maker_Private_c (m := q) (x := z) (Mok.mono oq (by omega)) wz
    refine AW.skip ?_
    repeat refine AW.seq ?_
    refine AW.block ?_
    repeat refine AW.seq ?_
    refine AW.reg ?_
    iterate 7 refine AOL.s1 (h := ?_)
    refine AOL.callM (l := 0) (b := 1000) (cq) rfl (by kernel_rfl) rfl rfl rfl rfl rfl (hst := by simp only [St.drops, St.drop, mapT, mapH, kill, kills, del, St.put, ins, reduceIte, Nat.reduceAdd, Nat.reduceLT, Nat.reduceEqDiff, Bool.false_eq_true]; exact rfl) ?_
    iterate 3 refine AOL.s1 (h := ?_)
    refine AOL.nil ?_
    repeat refine AW.seq ?_
    refine AW.let 2168 (h := ?_)
    refine AW.reg ?_
    iterate 3 refine AOL.s1 (h := ?_)
    refine AOL.nil ?_
    refine ⟨r.length, by simp, j + 1, freshM q z, l ++ [(q.vals.length : Int)], r, ?_, hr', hlt, rfl, by rw [List.length_append, hl]; rfl, Mok.fresh (Mok.mono oq (by simp)) _, hs, rfl⟩
    rw [fmi_snoc]; rfl
  · obtain rfl := ends_nil hr (by simpa using c_)
    have hs' : pthS p q5 [] = (q, l) := by rw [← show _ = _ from hs]; rfl
    clear hs
    have lP : l.length = p.length := by
      have := pthS_len p q5 []
      rw [hs'] at this; simpa using this
    have jl : j = p.length := by omega
    subst jl
    have hfl : AV.sl p.length (sub 0 (p.length * 1) (fm i1 l)) = AV.sl p.length (fm i1 l) := by rw [← lP, sub_all (by rw [fm_len i1_len]; exact Nat.le_refl _)]
    refine AW.fz 9003 rfl (fun h => by cases h) (h := ?_)
    rw [hfl]
    clear hfl hl hr
    replace hs' : id (pthS p q5 [] = (q, l)) := hs'
    replace oq : Mok 879 q := Mok.mono oq (by omega)
    obtain ⟨q7, h_q7⟩ : ∃ x, x = linM q [⟨0, 1⟩] := ⟨_, rfl⟩
    obtain ⟨k1, h_k1⟩ : ∃ x : Int, x = (q.vals.length : Int) := ⟨_, rfl⟩
    have c7 := gadget_Maker_Linear_c (m := q) (L := [⟨0, 1⟩]) (Mok.mono oq (by decide)) (⟨by simp, fun t ht => by simp only [List.mem_singleton] at ht; subst ht; exact ⟨by decide, by decide⟩⟩)
    rw [← h_q7, ← h_k1] at c7
    have o7 : Mok 877 q7 := by rw [h_q7]; exact Mok.lin (Mok.mono oq (by decide)) _
    replace h_q7 : id (q7 = linM q [⟨0, 1⟩]) := h_q7
    replace h_k1 : id (k1 = (q.vals.length : Int)) := h_k1
    obtain ⟨q8, h_q8⟩ : ∃ x, x = twoM q7 v0 k1 := ⟨_, rfl⟩
    obtain ⟨hi, h_hi⟩ : ∃ x : Int, x = twoR q7 v0 k1 := ⟨_, rfl⟩
    have c8 := gadget_Maker_Two_c (m := q7) (a := v0) (b := k1) (Mok.mono o7 (by decide))
    rw [← h_q8, ← h_hi] at c8
    have o8 : Mok 863 q8 := by rw [h_q8]; exact twoM_ok (Mok.mono o7 (by decide)) _ _
    replace h_q8 : id (q8 = twoM q7 v0 k1) := h_q8
    replace h_hi : id (hi = twoR q7 v0 k1) := h_hi
    obtain ⟨q9, h_q9⟩ : ∃ x, x = linM q8 [⟨0, 2⟩] := ⟨_, rfl⟩
    obtain ⟨k2, h_k2⟩ : ∃ x : Int, x = (q8.vals.length : Int) := ⟨_, rfl⟩
    have c9 := gadget_Maker_Linear_c (m := q8) (L := [⟨0, 2⟩]) (Mok.mono o8 (by decide)) (⟨by simp, fun t ht => by simp only [List.mem_singleton] at ht; subst ht; exact ⟨by decide, by decide⟩⟩)
    rw [← h_q9, ← h_k2] at c9
    have o9 : Mok 861 q9 := by rw [h_q9]; exact Mok.lin (Mok.mono o8 (by decide)) _
    replace h_q9 : id (q9 = linM q8 [⟨0, 2⟩]) := h_q9
    replace h_k2 : id (k2 = (q8.vals.length : Int)) := h_k2
    obtain ⟨q10, h_q10⟩ : ∃ x, x = twoM q9 v0 k2 := ⟨_, rfl⟩
    obtain ⟨ow, h_ow⟩ : ∃ x : Int, x = twoR q9 v0 k2 := ⟨_, rfl⟩
    have c10 := gadget_Maker_Two_c (m := q9) (a := v0) (b := k2) (Mok.mono o9 (by decide))
    rw [← h_q10, ← h_ow] at c10
    have o10 : Mok 847 q10 := by rw [h_q10]; exact twoM_ok (Mok.mono o9 (by decide)) _ _
    replace h_q10 : id (q10 = twoM q9 v0 k2) := h_q10
    replace h_ow : id (ow = twoR q9 v0 k2) := h_ow
    obtain ⟨q11, h_q11⟩ : ∃ x, x = sameM q10 ow v2 := ⟨_, rfl⟩
    have c11 := gadget_Maker_Same_c (m := q10) (a := ow) (b := v2) (Mok.mono o10 (by decide))
    rw [← h_q11] at c11
    have o11 : Mok 846 q11 := by rw [h_q11]; exact Mok.row (Mok.mono o10 (by decide)) _ _ _
    replace h_q11 : id (q11 = sameM q10 ow v2) := h_q11
    obtain ⟨q12, h_q12⟩ : ∃ x, x = (manE q11 [v1, v2, v3]).1 := ⟨_, rfl⟩
    obtain ⟨h12, h_h12⟩ : ∃ x : Int, x = (manE q11 [v1, v2, v3]).2 := ⟨_, rfl⟩
    have c12 := gadget_Maker_Many_c (m := q11) (V := [v1, v2, v3]) (Mok.mono o11 (by simp))
    rw [← h_q12, ← h_h12] at c12
    have o12 : Mok 802 q12 := by rw [h_q12]; exact manE_ok (Mok.mono o11 (by simp))
    replace h_q12 : id (q12 = (manE q11 [v1, v2, v3]).1) := h_q12
    replace h_h12 : id (h12 = (manE q11 [v1, v2, v3]).2) := h_h12
    obtain ⟨q13, h_q13⟩ : ∃ x, x = bitM q12 v4 p.length := ⟨_, rfl⟩
    have c13 := gadget_Maker_Bits_c (m := q12) (a := v4) (n := p.length) (Mok.mono o12 (by decide))
    rw [← h_q13] at c13
    have o13 : Mok 685 q13 := by rw [h_q13]; exact bitM_ok (Mok.mono o12 (by decide)) _ _
    replace h_q13 : id (q13 = bitM q12 v4 p.length) := h_q13
    obtain ⟨bs0, h_bs0⟩ : ∃ x, x = (bitE q12 v4 p.length).2.1 := ⟨_, rfl⟩
    rw [← h_bs0] at c13
    have lB : bs0.length = p.length := by
      rw [h_bs0]
      have := bitS_len (isM q12.vals v4) (bitN p.length) 0 q12 [] []
      have e : bitN p.length = p.length := by
        have h : bitN (p.length : Int) = (p.length : Int).toNat := if_neg (by omega)
        rw [h]; omega
      show (bitS (isM q12.vals v4) (bitN p.length) 0 q12 [] []).2.1.length = _
      rw [e] at this ⊢; simpa using this
    replace h_bs0 : id (bs0 = (bitE q12 v4 p.length).2.1) := h_bs0
    rw [show il bs0 = AV.sl p.length (fm i1 bs0) by rw [← lB]] at c13
    repeat refine AW.seq ?_
    refine AW.exit ?_
    repeat (first | refine Kseq.ex ?_ | refine Kloop.ex ?_ | refine Kblock.miss (by decide) ?_)
    refine Kblock.hit ?_
    refine AW.kq [0, 2, 3, 4, 5, 13, 14, 15, 16, 17, 18] (h := ?_)
    repeat refine AW.seq ?_
    refine AW.reg ?_
    iterate 3 refine AOL.s1 (h := ?_)
    refine AOL.fz 2232 rfl (fun h => by cases h) (h := ?_)
    refine AOL.callM (l := 0) (b := 1000) (c7) rfl (by kernel_rfl) rfl rfl rfl rfl rfl (hst := by simp only [St.drops, St.drop, mapT, mapH, kill, kills, del, St.put, ins, reduceIte, Nat.reduceAdd, Nat.reduceLT, Nat.reduceEqDiff, Bool.false_eq_true]; exact rfl) ?_
    iterate 1 refine AOL.s1 (h := ?_)
    refine AOL.nil ?_
    refine AW.kq [0, 2, 3, 4, 5, 13, 14, 15, 16, 17, 18, 20] (h := ?_)
    repeat refine AW.seq ?_
    refine AW.reg ?_
    iterate 3 refine AOL.s1 (h := ?_)
    refine AOL.callM (l := 0) (b := 1000) (c8) rfl (by kernel_rfl) rfl rfl rfl rfl rfl (hst := by simp only [St.drops, St.drop, mapT, mapH, kill, kills, del, St.put, ins, reduceIte, Nat.reduceAdd, Nat.reduceLT, Nat.reduceEqDiff, Bool.false_eq_true]; exact rfl) ?_
    iterate 1 refine AOL.s1 (h := ?_)
    refine AOL.nil ?_
    refine AW.kq [0, 2, 3, 4, 5, 13, 14, 15, 16, 17, 18, 21] (h := ?_)
    repeat refine AW.seq ?_
    refine AW.reg ?_
    iterate 3 refine AOL.s1 (h := ?_)
    refine AOL.fz 2360 rfl (fun h => by cases h) (h := ?_)
    refine AOL.callM (l := 0) (b := 1000) (c9) rfl (by kernel_rfl) rfl rfl rfl rfl rfl (hst := by simp only [St.drops, St.drop, mapT, mapH, kill, kills, del, St.put, ins, reduceIte, Nat.reduceAdd, Nat.reduceLT, Nat.reduceEqDiff, Bool.false_eq_true]; exact rfl) ?_
    iterate 1 refine AOL.s1 (h := ?_)
    refine AOL.nil ?_
    refine AW.kq [0, 2, 3, 4, 5, 13, 14, 15, 16, 17, 18, 21, 22] (h := ?_)
    repeat refine AW.seq ?_
    refine AW.reg ?_
    iterate 3 refine AOL.s1 (h := ?_)
    refine AOL.callM (l := 0) (b := 1000) (c10) rfl (by kernel_rfl) rfl rfl rfl rfl rfl (hst := by simp only [St.drops, St.drop, mapT, mapH, kill, kills, del, St.put, ins, reduceIte, Nat.reduceAdd, Nat.reduceLT, Nat.reduceEqDiff, Bool.false_eq_true]; exact rfl) ?_
    iterate 1 refine AOL.s1 (h := ?_)
    refine AOL.nil ?_
    refine AW.kq [0, 2, 3, 4, 5, 14, 15, 16, 17, 18, 21, 23] (h := ?_)
    repeat refine AW.seq ?_
    refine AW.reg ?_
    iterate 3 refine AOL.s1 (h := ?_)
    refine AOL.callM (l := 0) (b := 1000) (c11) rfl (by kernel_rfl) rfl rfl rfl rfl rfl (hst := by simp only [St.drops, St.drop, mapT, mapH, kill, kills, del, St.put, ins, reduceIte, Nat.reduceAdd, Nat.reduceLT, Nat.reduceEqDiff, Bool.false_eq_true]; exact rfl) ?_
    refine AOL.nil ?_
    refine AW.kq [0, 2, 3, 4, 5, 14, 15, 16, 17, 18, 21] (h := ?_)
    repeat refine AW.seq ?_
    refine AW.reg ?_
    iterate 5 refine AOL.s1 (h := ?_)
    refine AOL.fz 2584 rfl (fun h => by cases h) (h := ?_)
    refine AOL.callM (l := 0) (b := 1000) (c12) rfl (by kernel_rfl) rfl rfl rfl rfl rfl (hst := by simp only [St.drops, St.drop, mapT, mapH, kill, kills, del, St.put, ins, reduceIte, Nat.reduceAdd, Nat.reduceLT, Nat.reduceEqDiff, Bool.false_eq_true]; exact rfl) ?_
    iterate 1 refine AOL.s1 (h := ?_)
    refine AOL.nil ?_
    refine AW.kq [0, 2, 3, 4, 5, 14, 16, 17, 18, 21, 24] (h := ?_)
    repeat refine AW.seq ?_
    refine AW.reg ?_
    iterate 4 refine AOL.s1 (h := ?_)
    refine AOL.callM (l := 0) (b := 1000) (c13) rfl (by kernel_rfl) rfl rfl rfl rfl rfl (hst := by simp only [St.drops, St.drop, mapT, mapH, kill, kills, del, St.put, ins, reduceIte, Nat.reduceAdd, Nat.reduceLT, Nat.reduceEqDiff, Bool.false_eq_true]; exact rfl) ?_
    iterate 1 refine AOL.s1 (h := ?_)
    refine AOL.nil ?_
    refine AW.kq [0, 2, 3, 4, 5, 14, 16, 17, 18, 21, 24, 25] (h := ?_)
    repeat refine AW.seq ?_
    refine AW.reg ?_
    iterate 1 refine AOL.s1 (h := ?_)
    refine AOL.nil ?_
    refine AW.kq [0, 2, 3, 4, 5, 14, 16, 17, 18, 21, 24, 25, 26] (h := ?_)
    repeat refine AW.seq ?_
    refine AW.block ?_
    repeat refine AW.seq ?_
    refine AW.loopK [0, 2, 3, 4, 5, 14, 16, 17, 18, 21, 24, 25, 26] (fun n' s => ∃ (j : Nat) (g : Mk) (h : Int) (bs ps : List Int), s = ⟨172, [(0, .ptr 0 0), (2, i ro), (3, i si), (4, i en), (5, i an), (14, i v1), (16, i v3), (17, i v4), (18, .sl p.length (fm i1 l)), (21, i hi), (24, i h), (25, .sl p.length (fm i1 bs0)), (26, i j)], [(0, mkB g 1001 1002), (1001, rwB g.rows), (1002, vlB g.vals), (1112, ⟨27, true, [u k, u v, u o, u rh, i a, ul p]⟩)]⟩ ∧ bs0.drop j = bs ∧ l.drop j = ps ∧ j ≤ l.length ∧ n' = ps.length ∧ Mok (18 * ps.length + 397) g ∧ id (clmS bs ps g h = clmS bs0 l q13 h12) ∧ id (n' = n')) (p.length) ?_ ?_
    · exact ⟨0, q13, h12, bs0, l, rfl, rfl, rfl, Nat.zero_le _, lP.symm, Mok.mono o13 (by omega), rfl, rfl⟩
    rintro n' s ⟨j, g, h, bs, ps, rfl, hb, hr, hjl, rfl, og, hs, _⟩
    repeat refine AW.seq ?_
    refine AW.reg ?_
    iterate 4 refine AOL.s1 (h := ?_)
    refine AOL.nil ?_
    refine AW.kq [0, 2, 3, 4, 5, 14, 16, 17, 18, 21, 24, 25, 26, 109] (h := ?_)
    repeat refine AW.seq ?_
    refine AW.cond rfl (fun d_ => ?_) (fun d_ => ?_)
    · obtain ⟨z, ps, rfl⟩ := ends_cons hr hjl (by rw [lP]; simpa using d_)
      obtain ⟨hlt, hr', hz⟩ := dconsq hr
      obtain ⟨y, bs, rfl⟩ := ends_cons hb (by omega) (by rw [lB]; simpa using d_)
      obtain ⟨hlb, hb', hy⟩ := dconsq hb
      have hw := incq hlt (by omega)
      have k0 : (0:Int) ≤ j := by omega
      have k1' : (j:Int) < p.length := by omega
      have hd1 : (fm i1 l).drop (j * 1) = i z :: fm i1 ps := fm_drop i1_len hr
      have hd' : (fm i1 l).drop j = i z :: fm i1 ps := by simpa using hd1
      have he1 : (fm i1 bs0).drop (j * 1) = i y :: fm i1 bs := fm_drop i1_len hb
      have he' : (fm i1 bs0).drop j = i y :: fm i1 bs := by simpa using he1
      clear hd1 he1 hr hb
      have ca := gadget_Maker_Choose_c (m := g) (c := y) (a := z) (b := h) (Mok.mono og (by rw [List.length_cons]; omega))
      have cb := gadget_Maker_Choose_c (m := choM g y z h) (c := y) (a := h) (b := z) (Mok.cho (Mok.mono og (by rw [List.length_cons]; omega)) _ _ _)
      have oc : Mok (14 + (18 * ps.length + 397)) (choM (choM g y z h) y h z) := Mok.cho (Mok.cho (Mok.mono og (by rw [List.length_cons]; omega)) _ _ _) _ _ _
      have cc := gadget_Maker_Two_c (m := choM (choM g y z h) y h z) (a := g.vals.length) (b := (choM g y z h).vals.length) (Mok.mono oc (by omega))
      refine AW.skip ?_
      repeat refine AW.seq ?_
      refine AW.block ?_
      repeat refine AW.seq ?_
      refine AW.drw 10 [] (by kernel_rfl) (h := ?_)
      iterate 10 refine ADL.dm 1 (h := ?_)
      refine ADL.done hmix rfl rfl (hT := ?_)
      refine AOL.callM (l := 0) (b := 1000) (ca) rfl (by kernel_rfl) rfl rfl rfl rfl rfl (hst := by simp only [St.drops, St.drop, mapT, mapH, kill, kills, del, St.put, ins, reduceIte, Nat.reduceAdd, Nat.reduceLT, Nat.reduceEqDiff, Bool.false_eq_true]; exact rfl) ?_
      iterate 1 refine AOL.s1 (h := ?_)
      refine AOL.nil ?_
      refine AW.kq [0, 2, 3, 4, 5, 14, 16, 17, 18, 21, 24, 25, 26, 27] (h := ?_)
      repeat refine AW.seq ?_
      refine AW.drw 10 [] (by kernel_rfl) (h := ?_)
      iterate 10 refine ADL.dm 1 (h := ?_)
      refine ADL.done hmix rfl rfl (hT := ?_)
      refine AOL.callM (l := 0) (b := 1000) (cb) rfl (by kernel_rfl) rfl rfl rfl rfl rfl (hst := by simp only [St.drops, St.drop, mapT, mapH, kill, kills, del, St.put, ins, reduceIte, Nat.reduceAdd, Nat.reduceLT, Nat.reduceEqDiff, Bool.false_eq_true]; exact rfl) ?_
      iterate 1 refine AOL.s1 (h := ?_)
      refine AOL.nil ?_
      refine AW.kq [0, 2, 3, 4, 5, 14, 16, 17, 18, 21, 25, 26, 27, 28] (h := ?_)
      repeat refine AW.seq ?_
      refine AW.reg ?_
      iterate 3 refine AOL.s1 (h := ?_)
      refine AOL.callM (l := 0) (b := 1000) (cc) rfl (by kernel_rfl) rfl rfl rfl rfl rfl (hst := by simp only [St.drops, St.drop, mapT, mapH, kill, kills, del, St.put, ins, reduceIte, Nat.reduceAdd, Nat.reduceLT, Nat.reduceEqDiff, Bool.false_eq_true]; exact rfl) ?_
      iterate 1 refine AOL.s1 (h := ?_)
      refine AOL.nil ?_
      repeat refine AW.seq ?_
      refine AW.reg ?_
      iterate 3 refine AOL.s1 (h := ?_)
      refine AOL.nil ?_
      exact ⟨ps.length, by simp, j + 1, twoM (choM (choM g y z h) y h z) g.vals.length (choM g y z h).vals.length, twoR (choM (choM g y z h) y h z) g.vals.length (choM g y z h).vals.length, bs, ps, rfl, hb', hr', hlt, rfl, twoM_ok oc _ _, hs, rfl⟩
    · obtain rfl := ends_nil hr (by rw [lP]; simpa using d_)
      have hs14 : id (clmS bs0 l q13 h12 = (g, h)) := by rw [← show _ = _ from hs]; cases bs <;> rfl
      clear hs hb hr
      replace og : Mok 397 g := Mok.mono og (by omega)
      obtain ⟨q15, h_q15⟩ : ∃ x, x = linM g (sumS 0 288230376287764480 [h, ro]) := ⟨_, rfl⟩
      obtain ⟨k3, h_k3⟩ : ∃ x : Int, x = (g.vals.length : Int) := ⟨_, rfl⟩
      have c15 := obollaw18_linear_c (m := g) (k := 288230376287764480) (V := [h, ro]) (Mok.mono og (by decide)) w64_m1 (by simp)
      rw [← h_q15, ← h_k3] at c15
      have o15 : Mok 395 q15 := by rw [h_q15]; exact Mok.lin (Mok.mono og (by decide)) _
      replace h_q15 : id (q15 = linM g (sumS 0 288230376287764480 [h, ro])) := h_q15
      replace h_k3 : id (k3 = (g.vals.length : Int)) := h_k3
      obtain ⟨q16, h_q16⟩ : ∃ x, x = mulM q15 v1 k3 := ⟨_, rfl⟩
      obtain ⟨off, h_off⟩ : ∃ x : Int, x = (q15.vals.length : Int) := ⟨_, rfl⟩
      have c16 := gadget_Maker_Mul_c (m := q15) (a := v1) (b := k3) (Mok.mono o15 (by decide))
      rw [← h_q16, ← h_off] at c16
      have o16 : Mok 393 q16 := by rw [h_q16]; exact Mok.prod (Mok.mono o15 (by decide)) _ _
      replace h_q16 : id (q16 = mulM q15 v1 k3) := h_q16
      replace h_off : id (off = (q15.vals.length : Int)) := h_off
      obtain ⟨q17, h_q17⟩ : ∃ x, x = linM q16 [] := ⟨_, rfl⟩
      obtain ⟨k4, h_k4⟩ : ∃ x : Int, x = (q16.vals.length : Int) := ⟨_, rfl⟩
      have c17 := lin_nil (m := q16) (Mok.mono o16 (by decide))
      rw [← h_q17, ← h_k4] at c17
      have o17 : Mok 391 q17 := by rw [h_q17]; exact Mok.lin (Mok.mono o16 (by decide)) _
      replace h_q17 : id (q17 = linM q16 []) := h_q17
      replace h_k4 : id (k4 = (q16.vals.length : Int)) := h_k4
      obtain ⟨q18, h_q18⟩ : ∃ x, x = sameM q17 off k4 := ⟨_, rfl⟩
      have c18 := gadget_Maker_Same_c (m := q17) (a := off) (b := k4) (Mok.mono o17 (by decide))
      rw [← h_q18] at c18
      have o18 : Mok 390 q18 := by rw [h_q18]; exact Mok.row (Mok.mono o17 (by decide)) _ _ _
      replace h_q18 : id (q18 = sameM q17 off k4) := h_q18
      obtain ⟨q19, h_q19⟩ : ∃ x, x = (manE q18 [hi, v3, v4]).1 := ⟨_, rfl⟩
      obtain ⟨h19, h_h19⟩ : ∃ x : Int, x = (manE q18 [hi, v3, v4]).2 := ⟨_, rfl⟩
      have c19 := gadget_Maker_Many_c (m := q18) (V := [hi, v3, v4]) (Mok.mono o18 (by simp))
      rw [← h_q19, ← h_h19] at c19
      have o19 : Mok 346 q19 := by rw [h_q19]; exact manE_ok (Mok.mono o18 (by simp))
      replace h_q19 : id (q19 = (manE q18 [hi, v3, v4]).1) := h_q19
      replace h_h19 : id (h19 = (manE q18 [hi, v3, v4]).2) := h_h19
      obtain ⟨q20, h_q20⟩ : ∃ x, x = sameM q19 h19 en := ⟨_, rfl⟩
      have c20 := gadget_Maker_Same_c (m := q19) (a := h19) (b := en) (Mok.mono o19 (by decide))
      rw [← h_q20] at c20
      have o20 : Mok 345 q20 := by rw [h_q20]; exact Mok.row (Mok.mono o19 (by decide)) _ _ _
      replace h_q20 : id (q20 = sameM q19 h19 en) := h_q20
      obtain ⟨q21, h_q21⟩ : ∃ x, x = twoM q20 hi si := ⟨_, rfl⟩
      obtain ⟨an1, h_an1⟩ : ∃ x : Int, x = twoR q20 hi si := ⟨_, rfl⟩
      have c21 := gadget_Maker_Two_c (m := q20) (a := hi) (b := si) (Mok.mono o20 (by decide))
      rw [← h_q21, ← h_an1] at c21
      have o21 : Mok 331 q21 := by rw [h_q21]; exact twoM_ok (Mok.mono o20 (by decide)) _ _
      replace h_q21 : id (q21 = twoM q20 hi si) := h_q21
      replace h_an1 : id (an1 = twoR q20 hi si) := h_an1
      obtain ⟨q22, h_q22⟩ : ∃ x, x = sameM q21 an1 an := ⟨_, rfl⟩
      have c22 := gadget_Maker_Same_c (m := q21) (a := an1) (b := an) (Mok.mono o21 (by decide))
      rw [← h_q22] at c22
      have o22 : Mok 330 q22 := by rw [h_q22]; exact Mok.row (Mok.mono o21 (by decide)) _ _ _
      replace h_q22 : id (q22 = sameM q21 an1 an) := h_q22
      repeat refine AW.seq ?_
      refine AW.exit ?_
      repeat (first | refine Kseq.ex ?_ | refine Kloop.ex ?_ | refine Kblock.miss (by decide) ?_)
      refine Kblock.hit ?_
      refine AW.kq [0, 2, 3, 4, 5, 14, 16, 17, 21, 24] (h := ?_)
      repeat refine AW.seq ?_
      refine AW.reg ?_
      iterate 4 refine AOL.s1 (h := ?_)
      refine AOL.fz 3256 rfl (fun h => by cases h) (h := ?_)
      refine AOL.callM (l := 0) (b := 1000) (c15) rfl (by kernel_rfl) rfl rfl rfl rfl rfl (hst := by simp only [St.drops, St.drop, mapT, mapH, kill, kills, del, St.put, ins, reduceIte, Nat.reduceAdd, Nat.reduceLT, Nat.reduceEqDiff, Bool.false_eq_true]; exact rfl) ?_
      iterate 1 refine AOL.s1 (h := ?_)
      refine AOL.nil ?_
      refine AW.kq [0, 3, 4, 5, 14, 16, 17, 21, 29] (h := ?_)
      repeat refine AW.seq ?_
      refine AW.reg ?_
      iterate 3 refine AOL.s1 (h := ?_)
      refine AOL.callM (l := 0) (b := 1000) (c16) rfl (by kernel_rfl) rfl rfl rfl rfl rfl (hst := by simp only [St.drops, St.drop, mapT, mapH, kill, kills, del, St.put, ins, reduceIte, Nat.reduceAdd, Nat.reduceLT, Nat.reduceEqDiff, Bool.false_eq_true]; exact rfl) ?_
      iterate 1 refine AOL.s1 (h := ?_)
      refine AOL.nil ?_
      refine AW.kq [0, 3, 4, 5, 14, 16, 17, 21, 30] (h := ?_)
      repeat refine AW.seq ?_
      refine AW.reg ?_
      iterate 1 refine AOL.s1 (h := ?_)
      refine AOL.callM (l := 0) (b := 1000) (c17) rfl (by kernel_rfl) rfl rfl rfl rfl rfl (hst := by simp only [St.drops, St.drop, mapT, mapH, kill, kills, del, St.put, ins, reduceIte, Nat.reduceAdd, Nat.reduceLT, Nat.reduceEqDiff, Bool.false_eq_true]; exact rfl) ?_
      iterate 1 refine AOL.s1 (h := ?_)
      refine AOL.nil ?_
      refine AW.kq [0, 3, 4, 5, 14, 16, 17, 21, 30, 31] (h := ?_)
      repeat refine AW.seq ?_
      refine AW.reg ?_
      iterate 3 refine AOL.s1 (h := ?_)
      refine AOL.callM (l := 0) (b := 1000) (c18) rfl (by kernel_rfl) rfl rfl rfl rfl rfl (hst := by simp only [St.drops, St.drop, mapT, mapH, kill, kills, del, St.put, ins, reduceIte, Nat.reduceAdd, Nat.reduceLT, Nat.reduceEqDiff, Bool.false_eq_true]; exact rfl) ?_
      refine AOL.nil ?_
      refine AW.kq [0, 3, 4, 5, 14, 16, 17, 21] (h := ?_)
      repeat refine AW.seq ?_
      refine AW.reg ?_
      iterate 5 refine AOL.s1 (h := ?_)
      refine AOL.fz 3512 rfl (fun h => by cases h) (h := ?_)
      refine AOL.callM (l := 0) (b := 1000) (c19) rfl (by kernel_rfl) rfl rfl rfl rfl rfl (hst := by simp only [St.drops, St.drop, mapT, mapH, kill, kills, del, St.put, ins, reduceIte, Nat.reduceAdd, Nat.reduceLT, Nat.reduceEqDiff, Bool.false_eq_true]; exact rfl) ?_
      iterate 1 refine AOL.s1 (h := ?_)
      refine AOL.nil ?_
      refine AW.kq [0, 3, 4, 5, 14, 21, 32] (h := ?_)
      repeat refine AW.seq ?_
      refine AW.reg ?_
      iterate 3 refine AOL.s1 (h := ?_)
      refine AOL.callM (l := 0) (b := 1000) (c20) rfl (by kernel_rfl) rfl rfl rfl rfl rfl (hst := by simp only [St.drops, St.drop, mapT, mapH, kill, kills, del, St.put, ins, reduceIte, Nat.reduceAdd, Nat.reduceLT, Nat.reduceEqDiff, Bool.false_eq_true]; exact rfl) ?_
      refine AOL.nil ?_
      refine AW.kq [0, 3, 5, 14, 21] (h := ?_)
      repeat refine AW.seq ?_
      refine AW.reg ?_
      iterate 3 refine AOL.s1 (h := ?_)
      refine AOL.callM (l := 0) (b := 1000) (c21) rfl (by kernel_rfl) rfl rfl rfl rfl rfl (hst := by simp only [St.drops, St.drop, mapT, mapH, kill, kills, del, St.put, ins, reduceIte, Nat.reduceAdd, Nat.reduceLT, Nat.reduceEqDiff, Bool.false_eq_true]; exact rfl) ?_
      iterate 1 refine AOL.s1 (h := ?_)
      refine AOL.nil ?_
      refine AW.kq [0, 5, 14, 33] (h := ?_)
      repeat refine AW.seq ?_
      refine AW.reg ?_
      iterate 3 refine AOL.s1 (h := ?_)
      refine AOL.callM (l := 0) (b := 1000) (c22) rfl (by kernel_rfl) rfl rfl rfl rfl rfl (hst := by simp only [St.drops, St.drop, mapT, mapH, kill, kills, del, St.put, ins, reduceIte, Nat.reduceAdd, Nat.reduceLT, Nat.reduceEqDiff, Bool.false_eq_true]; exact rfl) ?_
      refine AOL.nil ?_
      refine AW.kq [14] (h := ?_)
      repeat refine AW.seq ?_
      refine AW.reg ?_
      iterate 2 refine AOL.s1 (h := ?_)
      refine AOL.nil ?_
      refine AW.kq [12] (h := ?_)
      repeat refine AW.seq ?_
      have eI : inpM m k v o rh a p p.length ro si en an = q22 := by
        simp only [id] at *
        unfold inpM
        subst h_q1 h_q2 h_q3 h_q4 h_q5
        simp only [hs']
        subst h_v0 h_v1 h_v2 h_v3 h_v4 h_k1 h_q7 h_hi h_q8 h_k2 h_q9 h_ow h_q10 h_q11 h_q12 h_h12 h_bs0 h_q13
        simp only [hs14]
        subst h_q15 h_k3 h_q16 h_off h_q17 h_k4 h_q18 h_q19 h_h19 h_q20 h_q21 h_an1 h_q22
        rfl
      rw [eI, ← show q1 = _ from h_q1, ← show v1 = _ from h_v1]
      refine AW.ret ?_
      refine ⟨_, mkOut q22, rfl, ?_, ?_⟩
      · exact fun x hx => List.mem_append_left [(1112, _)] hx
      · exact Tells.self
end Go.Proofs.YtngphcdhdllnnaaGreat.E.M
end
section
/- obollaw18: the move that values are of: contracts over E. -/
set_option linter.unusedVariables false
set_option linter.unusedSimpArgs false
set_option maxRecDepth 10000
open Go Go.Proofs.YtngphcdhdllnnaaGreat.E Go.Proofs
namespace Go.Proofs.YtngphcdhdllnnaaGreat.E.M
def atV (V : List Int) (j : Nat) : Int := V[j]?.getD 0
theorem atV_drop {V : List Int} {j : Nat} (h : j < V.length) : (fm u1 V).drop j = u (atV V j) :: fm u1 (V.drop (j + 1)) := by
  have h1 : (fm u1 V).drop (j * 1) = u V[j] :: fm u1 (V.drop (j + 1)) := fm_at u1_len h
  rw [Nat.mul_one] at h1
  rw [h1]
  unfold atV
  rw [List.getElem?_eq_getElem h]; rfl
theorem atV_w {V : List Int} (hV : wV V) (j : Nat) : w64 (atV V j) := by
  unfold atV
  by_cases h : j < V.length
  · rw [List.getElem?_eq_getElem h]; exact hV _ (List.getElem_mem h)
  · rw [List.getElem?_eq_none (by omega)]; decide
theorem wrp {n j : Nat} (h : n + j < 1000000000) : IntKind.i64.wrap ((n:Int) + (j:Int)) = ((n + j : Nat) : Int) := by
  rw [wrapI_o (by omega) (by omega)]; omega
/-- an input, from its first variable on -/
def takI (V : List Int) (n k : Nat) : Ip := ⟨atV V n, (atV V (n + 1), atV V (n + 2), atV V (n + 3)), atV V (n + 4) % 65536, (V.drop (n + 5)).take k⟩
theorem take_s {V : List Int} {n j : Nat} (h : n + 5 + j < V.length) : (V.drop (n + 5)).take (j + 1) = (V.drop (n + 5)).take j ++ [atV V (n + 5 + j)] := by
  have h1 : j < (V.drop (n + 5)).length := by rw [List.length_drop]; omega
  rw [List.take_add_one, List.getElem?_eq_getElem h1]
  simp only [Option.toList_some, List.getElem_drop]
  unfold atV
  rw [List.getElem?_eq_getElem h]; rfl
set_option maxHeartbeats 8000000 in
theorem obollaw18_taken_c {V : List Int} {n k : Nat} (hV : wV V) (lV : V.length < 1000000) (hk : k ≤ 16) (h : n + 5 + k ≤ V.length) : Fn Tryz.prog 51 [ul V, i n, i k] [] (fun r h_ => r = .agg (ipc (takI V n k))) := by
  refine Fn.enter Tryz.func51 Tryz.ntmps51 rfl (h := ?_)
  have tf := tfr
  have ot_ : (false || true) = true := rfl
  have tfv := tfv
  have tfm := tfm
  have tfn := tfn
  have tfr := tfr
  have n0 : Int.toNat 0 = 0 := rfl
  have n1 : Int.toNat 1 = 1 := rfl
  have q0 : (0:Int) ≤ 0 := by decide
  have q1' : (0:Int) ≤ 1 := by decide
  have x02 : (0:Int) < ((2:Nat):Int) := by decide
  have x12 : (1:Int) < ((2:Nat):Int) := by decide
  have z02 : (0:Int) < 2 := by decide
  have z12 : (1:Int) < 2 := by decide
  have a1_ : IntKind.i64.wrap (0 + 1) = 1 := by decide
  have a2_ : IntKind.i64.wrap (1 + 1) = 2 := by decide
  have i02 : decide ((0:Int) < 2) = true := rfl
  have i12 : decide ((1:Int) < 2) = true := rfl
  have i22 : decide ((2:Int) < 2) = false := rfl
  have d_0 := atV_drop (V := V) (j := n) (by omega)
  have b_0 : (0:Int) ≤ ((n : Nat) : Int) := by omega
  have l_0 : ((n : Nat) : Int) < V.length := by omega
  have d_1 := atV_drop (V := V) (j := n + 1) (by omega)
  have b_1 : (0:Int) ≤ ((n + 1 : Nat) : Int) := by omega
  have l_1 : ((n + 1 : Nat) : Int) < V.length := by omega
  have w_1 : IntKind.i64.wrap ((n:Int) + 1) = ((n + 1 : Nat) : Int) := wrp (j := 1) (by omega)
  have d_2 := atV_drop (V := V) (j := n + 2) (by omega)
  have b_2 : (0:Int) ≤ ((n + 2 : Nat) : Int) := by omega
  have l_2 : ((n + 2 : Nat) : Int) < V.length := by omega
  have w_2 : IntKind.i64.wrap ((n:Int) + 2) = ((n + 2 : Nat) : Int) := wrp (j := 2) (by omega)
  have d_3 := atV_drop (V := V) (j := n + 3) (by omega)
  have b_3 : (0:Int) ≤ ((n + 3 : Nat) : Int) := by omega
  have l_3 : ((n + 3 : Nat) : Int) < V.length := by omega
  have w_3 : IntKind.i64.wrap ((n:Int) + 3) = ((n + 3 : Nat) : Int) := wrp (j := 3) (by omega)
  have d_4 := atV_drop (V := V) (j := n + 4) (by omega)
  have b_4 : (0:Int) ≤ ((n + 4 : Nat) : Int) := by omega
  have l_4 : ((n + 4 : Nat) : Int) < V.length := by omega
  have w_4 : IntKind.i64.wrap ((n:Int) + 4) = ((n + 4 : Nat) : Int) := wrp (j := 4) (by omega)
  have w_5 : IntKind.i64.wrap ((n:Int) + 5) = ((n + 5 : Nat) : Int) := wrp (j := 5) (by omega)
  have wA := atV_w hV (n + 4)
  have tm : (atV V (n + 4)).tmod 65536 = atV V (n + 4) % 65536 := Int.tmod_eq_emod_of_nonneg wA.1
  have wm : IntKind.i64.wrap (atV V (n + 4) % 65536) = atV V (n + 4) % 65536 := by
    have h1 := Int.emod_nonneg (atV V (n + 4)) (show (65536:Int) ≠ 0 by decide)
    have h2 := Int.emod_lt_of_pos (atV V (n + 4)) (show (0:Int) < 65536 by decide)
    rw [wrapI_o (by omega) (by omega)]
  have t65 : (65536:Int) ≠ 0 := by decide
  clear wA
  unfold takI
  generalize atV V n = x0 at *
  generalize atV V (n + 1) = x1 at *
  generalize atV V (n + 2) = x2 at *
  generalize atV V (n + 3) = x3 at *
  generalize hx4 : atV V (n + 4) % 65536 = x4 at *
  generalize atV V (n + 4) = y4 at *
  clear hx4
  repeat refine AW.seq ?_
  refine AW.reg ?_
  iterate 1 refine AOL.s1 (h := ?_)
  refine AOL.nil ?_
  refine AW.kq [0, 1, 2, 6] (h := ?_)
  repeat refine AW.seq ?_
  refine AW.drw 29 [1112] (by kernel_rfl) (h := ?_)
  iterate 29 refine ADL.dm 1 (h := ?_)
  refine ADL.done hmix rfl rfl (hT := ?_)
  iterate 1 refine AOL.s1 (h := ?_)
  refine AOL.nil ?_
  refine AW.kq [0, 1, 2, 6, 7] (h := ?_)
  repeat refine AW.seq ?_
  refine AW.reg ?_
  iterate 1 refine AOL.s1 (h := ?_)
  refine AOL.nil ?_
  refine AW.kq [0, 1, 2, 6, 7, 8] (h := ?_)
  repeat refine AW.seq ?_
  refine AW.block ?_
  repeat refine AW.seq ?_
  refine AW.blank 9003 22 (h := ?_)
  refine AW.wkh 1112 (cs' := [u x0, u x1, u x2, u x3, i x4, .ref 9003 0 0 1]) rfl (Wks.cons (Wk.refl _) (Wks.cons (Wk.refl _) (Wks.cons (Wk.refl _) (Wks.cons (Wk.refl _) (Wks.cons (Wk.refl _) (Wks.cons (Wk.ref0 9003 1) Wks.nil)))))) (fun h => by cases h) (h := ?_)
  clear d_0 d_1 d_2 d_3 d_4 b_0 b_1 b_2 b_3 b_4 l_0 l_1 l_2 l_3 l_4 w_1 w_2 w_3 w_4
  refine AW.loopK [0, 1, 2, 6, 7, 8] (fun n' s => ∃ (j : Nat) (l : List Int), s = ⟨55, [(0, ul V), (1, i n), (2, i k), (6, .ptr 1096 0), (7, .ptr 1112 0), (8, i j)], [(1096, ⟨27, true, [u 0, u 0, u 0, u 0, i 0, .val (.slice none 0 0)]⟩), (1112, ⟨27, true, [u x0, u x1, u x2, u x3, i x4, .ref 9003 0 j 1]⟩), (9003, ⟨22, false, fm u1 l⟩)]⟩ ∧ j ≤ k ∧ n' = k - j ∧ id (l = (V.drop (n + 5)).take j)) (k) ?_ ?_
  · exact ⟨0, [], rfl, Nat.zero_le _, rfl, rfl⟩
  rintro n' s ⟨j, l, rfl, hjl, rfl, hl⟩
  repeat refine AW.seq ?_
  refine AW.reg ?_
  iterate 3 refine AOL.s1 (h := ?_)
  refine AOL.nil ?_
  refine AW.kq [0, 1, 2, 6, 7, 8, 39] (h := ?_)
  repeat refine AW.seq ?_
  refine AW.cond rfl (fun c_ => ?_) (fun c_ => ?_)
  · have h1 : j < k := by simpa using c_
    have hw := incq h1 (by omega)
    have h2 : n + 5 + j < V.length := by omega
    have w_6 : IntKind.i64.wrap (((n + 5 : Nat):Int) + (j:Int)) = ((n + 5 + j : Nat) : Int) := wrp (by omega)
    have d_5 := atV_drop h2
    have b_5 : (0:Int) ≤ ((n + 5 + j : Nat) : Int) := by omega
    have l_5 : ((n + 5 + j : Nat) : Int) < V.length := by omega
    have hs := take_s h2
    have ll : (fm u1 l).length = j := by
      rw [fm_len u1_len, Nat.mul_one, show l = _ from hl, List.length_take, List.length_drop]; omega
    have o1 : (j + 1) * 8 ≤ 140737488355328 := by omega
    have o3 : j ≤ 4611686018427387903 := by omega
    have o2 : j + 1 ≤ 4611686018427387904 := by omega
    rw [← show l = _ from hl] at hs
    replace hs : id ((V.drop (n + 5)).take (j + 1) = l ++ [atV V (n + 5 + j)]) := hs
    generalize atV V (n + 5 + j) = z at *
    clear hl c_
    refine AW.skip ?_
    repeat refine AW.seq ?_
    refine AW.block ?_
    repeat refine AW.seq ?_
    refine AW.drw 10 [] (by kernel_rfl) (h := ?_)
    iterate 10 refine ADL.dm 1 (h := ?_)
    refine ADL.done hmix rfl rfl (hT := ?_)
    iterate 3 refine AOL.s1 (h := ?_)
    refine AOL.nil ?_
    repeat refine AW.seq ?_
    skip
    refine AW.reg ?_
    iterate 3 refine AOL.s1 (h := ?_)
    refine AOL.nil ?_
    refine ⟨k - (j + 1), by omega, j + 1, l ++ [z], ?_, h1, rfl, hs.symm⟩
    rw [fmv_snoc]; rfl
  · have hj : j = k := by simp at c_; omega
    subst hj
    have lj : l.length = j := by rw [show l = _ from hl, List.length_take, List.length_drop]; omega
    have hfl : AV.sl j (sub 0 (j * 1) (fm u1 l)) = ul l := by rw [← lj, sub_all (by rw [fm_len u1_len]; exact Nat.le_refl _)]
    refine AW.fz 9003 rfl (fun h => by cases h) (h := ?_)
    rw [hfl]
    clear hfl lj
    repeat refine AW.seq ?_
    refine AW.exit ?_
    repeat (first | refine Kseq.ex ?_ | refine Kloop.ex ?_ | refine Kblock.miss (by decide) ?_)
    refine Kblock.hit ?_
    refine AW.kq [6, 7] (h := ?_)
    repeat refine AW.seq ?_
    refine AW.reg ?_
    iterate 2 refine AOL.s1 (h := ?_)
    refine AOL.nil ?_
    refine AW.kq [6] (h := ?_)
    repeat refine AW.seq ?_
    refine AW.ret ?_
    refine ⟨_, [], rfl, HOk.nil _, ?_⟩
    rw [← show l = _ from hl]
    rfl
end Go.Proofs.YtngphcdhdllnnaaGreat.E.M
end
section
/- circuit.fits: whether a move fits a depth: a contract over E. -/
set_option linter.unusedVariables false
set_option linter.unusedSimpArgs false
set_option maxRecDepth 10000
open Go Go.Proofs.YtngphcdhdllnnaaGreat.E Go.Proofs
namespace Go.Proofs.YtngphcdhdllnnaaGreat.E.M
theorem circuit_fits_1_c {n : Int} (hn : w64 n) : Fn Tryz.prog 71 [u n] [] (fun r _ => r = bo (decide (n ≥ 288230376287764481))) := by
  refine Fn.enter Tryz.func71 Tryz.ntmps71 rfl (h := ?_)
  have tf := tfr
  repeat refine AW.seq ?_
  refine AW.reg ?_
  iterate 1 refine AOL.s1 (h := ?_)
  refine AOL.nil ?_
  refine AW.kq [0] (h := ?_)
  repeat refine AW.seq ?_
  refine AW.reg ?_
  iterate 3 refine AOL.s1 (h := ?_)
  refine AOL.nil ?_
  refine AW.kq [2] (h := ?_)
  repeat refine AW.seq ?_
  refine AW.ret ?_
  refine ⟨_, [], rfl, HOk.nil _, ?_⟩
  rfl
theorem any_bw (L : List Int) : (!(L.any fun v => decide (v ≥ 288230376287764481))) = L.all bw := by
  induction L with
  | nil => rfl
  | cons a r ih =>
    rw [List.any_cons, List.all_cons, Bool.not_or, ih]
    congr 1
    unfold bw
    rw [← decide_not]
    exact decide_eq_decide.2 (by omega)
set_option maxHeartbeats 16000000 in
theorem circuit_fits_c {m : Mv} {d : Int} (hm : wM m) : Fn Tryz.prog 54 [.agg (mvc m), i d] [] (fun r _ => r = bo (fitsH m d)) := by
  obtain ⟨mr, mi, mo, ms, ⟨xk, ⟨xv, xo, xr⟩, xa, xp⟩, ⟨yk, ⟨yv, yo, yr⟩, ya, yp⟩, ⟨pv, po, pr⟩, ⟨qv, qo, qr⟩⟩ := m
  obtain ⟨w1, w2, w3, w4, ⟨x1, ⟨x2, x3, x4⟩, x5, x6, x7⟩, ⟨y1, ⟨y2, y3, y4⟩, y5, y6, y7⟩, ⟨p1, p2, p3⟩, ⟨q1, q2, q3⟩⟩ := hm
  simp only at w1 w2 w3 w4 x1 x2 x3 x4 x5 x6 x7 y1 y2 y3 y4 y5 y6 y7 p1 p2 p3 q1 q2 q3
  have n0 : Int.toNat 0 = 0 := rfl
  have n1 : Int.toNat 1 = 1 := rfl
  have q0 : (0:Int) ≤ 0 := by decide
  have q1' : (0:Int) ≤ 1 := by decide
  have x02 : (0:Int) < ((2:Nat):Int) := by decide
  have x12 : (1:Int) < ((2:Nat):Int) := by decide
  have z02 : (0:Int) < 2 := by decide
  have z12 : (1:Int) < 2 := by decide
  have a1 : IntKind.i64.wrap (0 + 1) = 1 := by decide
  have a2 : IntKind.i64.wrap (1 + 1) = 2 := by decide
  have i02 : decide ((0:Int) < 2) = true := rfl
  have i12 : decide ((1:Int) < 2) = true := rfl
  have i22 : decide ((2:Int) < 2) = false := rfl
  show Fn Tryz.prog 54 [.agg [u mr, u mi, u mo, u ms, u xk, u xv, u xo, u xr, i xa, ul xp, u yk, u yv, u yo, u yr, i ya, ul yp, u pv, u po, u pr, u qv, u qo, u qr], i d] [] _
  refine Fn.enter Tryz.func54 Tryz.ntmps54 rfl (h := ?_)
  have tf := tfv
  have tfr := tfr
  have ot_ : (false || true) = true := rfl
  repeat refine AW.seq ?_
  refine AW.reg ?_
  iterate 2 refine AOL.s1 (h := ?_)
  refine AOL.nil ?_
  refine AW.kq [1, 2] (h := ?_)
  repeat refine AW.seq ?_
  refine AW.reg ?_
  iterate 3 refine AOL.s1 (h := ?_)
  refine AOL.kq [1, 2, 12] (h := ?_)
  refine AOL.or 12 15 (os' := ?_) (x := ?_) (h1 := ?_) (h0 := ?_) (h := ?_)
  rotate_left 2
  iterate 2
    · intro hb_ K' hK; (iterate 3 refine AOL.s1 (h := ?_)); refine AOL.kq [1, 2, 15] (h := ?_); exact hK
  refine AOL.nil ?_
  refine AW.kq [1, 2, 15] (h := ?_)
  repeat refine AW.seq ?_
  refine AW.cond rfl (fun c0 => ?_) (fun c0 => ?_)
  · have e : decide (1 ≤ d ∧ d ≤ 16) = false := decide_eq_false (by simp at c0; omega)
    repeat refine AW.seq ?_
    refine AW.reg ?_
    iterate 1 refine AOL.s1 (h := ?_)
    refine AOL.nil ?_
    refine AW.kq [4] (h := ?_)
    repeat refine AW.seq ?_
    refine AW.ret ?_
    refine ⟨_, [], rfl, HOk.nil _, ?_⟩
    simp only [one?, fitsH, hdF, e, Bool.false_and]
  have hd0 : 1 ≤ d ∧ d ≤ 16 := by simp at c0; omega
  obtain ⟨dn, rfl⟩ : ∃ n : Nat, d = n := ⟨d.toNat, by omega⟩
  have hd1 : 1 ≤ dn ∧ dn ≤ 16 := by omega
  have hdt : id (decide (1 ≤ (dn:Int) ∧ (dn:Int) ≤ 16) = true) := decide_eq_true hd0
  clear c0 hd0
  have s1 := shl_k (k := 1) (l := dn) (by omega) (by
    have : 2 ^ dn ≤ 2 ^ 16 := Nat.pow_le_pow_right (by decide) (by omega)
    omega)
  have s2 : ((1:Nat):Int) = 1 := rfl
  rw [s2] at s1
  have s0 : ¬ (dn:Int) < 0 := by omega
  have s3 : ((1 * 2 ^ dn : Nat) : Int) = 2 ^ dn := by rw [Nat.one_mul]; simp
  rw [s3] at s1
  clear s2 s3
  refine AW.skip ?_
  repeat refine AW.seq ?_
  refine AW.reg ?_
  iterate 10 refine AOL.s1 (h := ?_)
  refine AOL.nil ?_
  refine AW.kq [1, 2, 5] (h := ?_)
  repeat refine AW.seq ?_
  refine AW.reg ?_
  iterate 3 refine AOL.s1 (h := ?_)
  refine AOL.nil ?_
  refine AW.kq [1, 2, 5, 26, 27] (h := ?_)
  repeat refine AW.seq ?_
  refine AW.block ?_
  repeat refine AW.seq ?_
  obtain ⟨A0, hA0⟩ : ∃ A, id (A = [mr, mi, mo, ms]) := ⟨_, rfl⟩
  have lA0 : A0.length = 4 := by rw [show A0 = _ from hA0]; rfl
  rw [show ([u mr, u mi, u mo, u ms] : List AV) = fm u1 A0 by rw [show A0 = _ from hA0]; rfl]
  obtain ⟨a0, ha⟩ : ∃ a : Nat, a = 4 := ⟨_, rfl⟩
  rw [← ha] at lA0
  conv in AV.ref 1384 0 4 1 => rw [← ha]
  replace ha : a0 ≤ 4 := by omega
  refine AW.rounds ?_
  refine AWin.next [1, 2, 5, 26, 27] (h := ?_)
  repeat refine AW.seq ?_
  refine AW.reg ?_
  iterate 1 refine AOL.s1 (h := ?_)
  refine AOL.nil ?_
  refine AW.kq [1, 2, 5, 26, 27, 28] (h := ?_)
  repeat refine AW.seq ?_
  refine AW.cond rfl (fun c_ => ?_) (fun c_ => ?_)
  rotate_left
  · cases c_
  refine AW.skip ?_
  repeat refine AW.seq ?_
  refine AW.block ?_
  repeat refine AW.seq ?_
  refine AW.reg ?_
  iterate 3 refine AOL.s1 (h := ?_)
  refine AOL.nil ?_
  refine AW.kq [1, 2, 5, 7, 26, 27] (h := ?_)
  repeat refine AW.seq ?_
  refine AW.midK [1, 2, 5, 7, 26, 27, 46] (fun t => ∃ b : Bool, t = ⟨83, [(1, i dn), (2, .ptr 1032 0), (5, .ref 1384 0 a0 1), (7, .ptr 1112 0), (26, .agg [u xk, u xv, u xo, u xr, i xa, ul xp, u yk, u yv, u yo, u yr, i ya, ul yp]), (27, i 0), (46, bo b)], [(1032, ⟨31, true, [u mr, u mi, u mo, u ms, u xk, u xv, u xo, u xr, i xa, ul xp, u yk, u yv, u yo, u yr, i ya, ul yp, u pv, u po, u pr, u qv, u qo, u qr]⟩), (1112, ⟨27, true, [u xk, u xv, u xo, u xr, i xa, ul xp]⟩), (1384, ⟨22, false, fm u1 A0⟩)]⟩ ∧ b = !(decide ((xp.length : Int) = dn) && decide (0 ≤ xa) && decide (xa < 2 ^ dn))) ?_ ?_
  · cases g1 : ((xp.length : Int) != dn) with
    | true =>
      refine AW.drw 15 [] (by kernel_rfl) (h := ?_)
      iterate 15 refine ADL.dm 1 (h := ?_)
      refine ADL.done hmix rfl rfl (hT := ?_)
      iterate 2 refine AOL.s1 (h := ?_)
      refine AOL.nil ?_
      exact ⟨_, rfl, by rw [show decide ((xp.length : Int) = dn) = false from by simpa using g1]; rfl⟩
    | false =>
      have h1 : decide ((xp.length : Int) = dn) = true := by simpa using g1
      cases g2 : decide (xa < 0) with
      | true =>
        refine AW.drw 15 [] (by kernel_rfl) (h := ?_)
        iterate 15 refine ADL.dm 1 (h := ?_)
        refine ADL.done hmix rfl rfl (hT := ?_)
        iterate 2 refine AOL.s1 (h := ?_)
        refine AOL.nil ?_
        exact ⟨_, rfl, by rw [h1, show decide (0 ≤ xa) = false from by simpa using g2]; rfl⟩
      | false =>
        refine AW.drw 15 [] (by kernel_rfl) (h := ?_)
        iterate 15 refine ADL.dm 1 (h := ?_)
        refine ADL.done hmix rfl rfl (hT := ?_)
        iterate 2 refine AOL.s1 (h := ?_)
        refine AOL.nil ?_
        have h2 : decide (0 ≤ xa) = true := by simpa using g2
        have h3 : decide (xa ≥ 2 ^ dn) = !decide (xa < 2 ^ dn) := by rw [← decide_not]; exact decide_eq_decide.2 (by omega)
        exact ⟨_, rfl, by rw [h1, h2, h3]; rfl⟩
  rintro t ⟨b_, rfl, hb⟩
  repeat refine AW.seq ?_
  refine AW.cond rfl (fun d0 => ?_) (fun d0 => ?_)
  · have e : inF ⟨xk, (xv, xo, xr), xa, xp⟩ dn = false := by
      rw [d0] at hb
      unfold inF
      simp only [Int.toNat_natCast]
      rw [show (decide ((xp.length : Int) = dn) && decide (0 ≤ xa) && decide (xa < 2 ^ dn)) = false from (by have hx := congrArg (!·) hb; simpa only [Bool.not_not, Bool.not_true] using hx.symm)]
      rfl
    repeat refine AW.seq ?_
    refine AW.reg ?_
    iterate 1 refine AOL.s1 (h := ?_)
    refine AOL.nil ?_
    refine AW.kq [4] (h := ?_)
    repeat refine AW.seq ?_
    refine AW.ret ?_
    refine ⟨_, [], rfl, HOk.nil _, ?_⟩
    simp only [one?, fitsH, e, Bool.false_and, Bool.and_false]
  have e0 : id ((decide ((xp.length : Int) = dn) && decide (0 ≤ xa) && decide (xa < 2 ^ dn)) = true) := by
    rw [d0] at hb; simpa using hb
  have l0 : xp.length ≤ 16 := by
    have h := show _ = true from e0
    simp only [Bool.and_eq_true, decide_eq_true_eq] at h; omega
  clear d0 hb
  refine AW.skip ?_
  repeat refine AW.seq ?_
  have b1 : (a0 + 4) * 8 ≤ 140737488355328 := by omega
  have b2 : a0 + 4 ≤ 4611686018427387904 := by omega
  have b3 : a0 ≤ 4611686018427387900 := by omega
  have ll : (fm u1 A0).length = a0 := by rw [fm_len u1_len, Nat.mul_one, lA0]
  refine AW.da 16 (by kernel_rfl) (h := ?_)
  iterate 13 refine ADP.d1 (h := ?_)
  refine ADP.app 1384 (h := ?_)
  iterate 2 refine ADP.d1 (h := ?_)
  refine ADP.done hmix (by kernel_rfl) rfl (hT := ?_)
  have lx : (fm u1 xp).length = xp.length := by rw [fm_len u1_len, Nat.mul_one]
  have la : (fm u1 A0 ++ [u xk, u xv, u xo, u xr]).length = a0 + 4 := by rw [List.length_append, ll]; rfl
  have b4 : (a0 + 4 + xp.length) * 8 ≤ 140737488355328 := by omega
  have b5 : a0 + 4 + xp.length ≤ 4611686018427387904 := by omega
  have b6 : xp.length ≤ 4611686018427387904 := by omega
  iterate 2 refine AOL.s1 (h := ?_)
  refine AOL.nil ?_
  repeat refine AW.seq ?_
  refine AW.let 1112 (h := ?_)
  refine AW.reg ?_
  iterate 2 refine AOL.s1 (h := ?_)
  refine AOL.nil ?_
  clear lx la b1 b2 b3 b4 b5 b6 ll
  obtain ⟨A1, hA1⟩ : ∃ A1, id (A1 = A0 ++ [xk, xv, xo, xr] ++ xp) := ⟨_, rfl⟩
  rw [show fm u1 A0 ++ [u xk, u xv, u xo, u xr] ++ fm u1 xp = fm u1 A1 by rw [show A1 = _ from hA1, fm_app, fm_app]; rfl]
  have lA1 : A1.length = a0 + 4 + xp.length := by rw [show A1 = _ from hA1, List.length_append, List.length_append, lA0]; rfl
  obtain ⟨a1, ha_⟩ : ∃ x, x = a0 + 4 + xp.length := ⟨_, rfl⟩
  rw [← ha_] at lA1
  rw [← ha_]
  replace ha : a1 ≤ 4 + 20 * (0 + 1) := by omega
  clear ha_
  clear lA0 a0

  refine AWin.next [1, 2, 5, 26, 27] (h := ?_)
  repeat refine AW.seq ?_
  refine AW.reg ?_
  iterate 1 refine AOL.s1 (h := ?_)
  refine AOL.nil ?_
  refine AW.kq [1, 2, 5, 26, 27, 28] (h := ?_)
  repeat refine AW.seq ?_
  refine AW.cond rfl (fun c_ => ?_) (fun c_ => ?_)
  rotate_left
  · cases c_
  refine AW.skip ?_
  repeat refine AW.seq ?_
  refine AW.block ?_
  repeat refine AW.seq ?_
  refine AW.reg ?_
  iterate 3 refine AOL.s1 (h := ?_)
  refine AOL.nil ?_
  refine AW.kq [1, 2, 5, 7, 26, 27] (h := ?_)
  repeat refine AW.seq ?_
  refine AW.midK [1, 2, 5, 7, 26, 27, 46] (fun t => ∃ b : Bool, t = ⟨83, [(1, i dn), (2, .ptr 1032 0), (5, .ref 1384 0 a1 1), (7, .ptr 1112 0), (26, .agg [u xk, u xv, u xo, u xr, i xa, ul xp, u yk, u yv, u yo, u yr, i ya, ul yp]), (27, i 1), (46, bo b)], [(1032, ⟨31, true, [u mr, u mi, u mo, u ms, u xk, u xv, u xo, u xr, i xa, ul xp, u yk, u yv, u yo, u yr, i ya, ul yp, u pv, u po, u pr, u qv, u qo, u qr]⟩), (1112, ⟨27, true, [u yk, u yv, u yo, u yr, i ya, ul yp]⟩), (1384, ⟨22, false, fm u1 A1⟩)]⟩ ∧ b = !(decide ((yp.length : Int) = dn) && decide (0 ≤ ya) && decide (ya < 2 ^ dn))) ?_ ?_
  · cases g1 : ((yp.length : Int) != dn) with
    | true =>
      refine AW.drw 15 [] (by kernel_rfl) (h := ?_)
      iterate 15 refine ADL.dm 1 (h := ?_)
      refine ADL.done hmix rfl rfl (hT := ?_)
      iterate 2 refine AOL.s1 (h := ?_)
      refine AOL.nil ?_
      exact ⟨_, rfl, by rw [show decide ((yp.length : Int) = dn) = false from by simpa using g1]; rfl⟩
    | false =>
      have h1 : decide ((yp.length : Int) = dn) = true := by simpa using g1
      cases g2 : decide (ya < 0) with
      | true =>
        refine AW.drw 15 [] (by kernel_rfl) (h := ?_)
        iterate 15 refine ADL.dm 1 (h := ?_)
        refine ADL.done hmix rfl rfl (hT := ?_)
        iterate 2 refine AOL.s1 (h := ?_)
        refine AOL.nil ?_
        exact ⟨_, rfl, by rw [h1, show decide (0 ≤ ya) = false from by simpa using g2]; rfl⟩
      | false =>
        refine AW.drw 15 [] (by kernel_rfl) (h := ?_)
        iterate 15 refine ADL.dm 1 (h := ?_)
        refine ADL.done hmix rfl rfl (hT := ?_)
        iterate 2 refine AOL.s1 (h := ?_)
        refine AOL.nil ?_
        have h2 : decide (0 ≤ ya) = true := by simpa using g2
        have h3 : decide (ya ≥ 2 ^ dn) = !decide (ya < 2 ^ dn) := by rw [← decide_not]; exact decide_eq_decide.2 (by omega)
        exact ⟨_, rfl, by rw [h1, h2, h3]; rfl⟩
  rintro t ⟨b_, rfl, hb⟩
  repeat refine AW.seq ?_
  refine AW.cond rfl (fun d1 => ?_) (fun d1 => ?_)
  · have e : inF ⟨yk, (yv, yo, yr), ya, yp⟩ dn = false := by
      rw [d1] at hb
      unfold inF
      simp only [Int.toNat_natCast]
      rw [show (decide ((yp.length : Int) = dn) && decide (0 ≤ ya) && decide (ya < 2 ^ dn)) = false from (by have hx := congrArg (!·) hb; simpa only [Bool.not_not, Bool.not_true] using hx.symm)]
      rfl
    repeat refine AW.seq ?_
    refine AW.reg ?_
    iterate 1 refine AOL.s1 (h := ?_)
    refine AOL.nil ?_
    refine AW.kq [4] (h := ?_)
    repeat refine AW.seq ?_
    refine AW.ret ?_
    refine ⟨_, [], rfl, HOk.nil _, ?_⟩
    simp only [one?, fitsH, e, Bool.false_and, Bool.and_false]
  have e1 : id ((decide ((yp.length : Int) = dn) && decide (0 ≤ ya) && decide (ya < 2 ^ dn)) = true) := by
    rw [d1] at hb; simpa using hb
  have l1 : yp.length ≤ 16 := by
    have h := show _ = true from e1
    simp only [Bool.and_eq_true, decide_eq_true_eq] at h; omega
  clear d1 hb
  refine AW.skip ?_
  repeat refine AW.seq ?_
  have b1 : (a1 + 4) * 8 ≤ 140737488355328 := by omega
  have b2 : a1 + 4 ≤ 4611686018427387904 := by omega
  have b3 : a1 ≤ 4611686018427387900 := by omega
  have ll : (fm u1 A1).length = a1 := by rw [fm_len u1_len, Nat.mul_one, lA1]
  refine AW.da 16 (by kernel_rfl) (h := ?_)
  iterate 13 refine ADP.d1 (h := ?_)
  refine ADP.app 1384 (h := ?_)
  iterate 2 refine ADP.d1 (h := ?_)
  refine ADP.done hmix (by kernel_rfl) rfl (hT := ?_)
  have lx : (fm u1 yp).length = yp.length := by rw [fm_len u1_len, Nat.mul_one]
  have la : (fm u1 A1 ++ [u yk, u yv, u yo, u yr]).length = a1 + 4 := by rw [List.length_append, ll]; rfl
  have b4 : (a1 + 4 + yp.length) * 8 ≤ 140737488355328 := by omega
  have b5 : a1 + 4 + yp.length ≤ 4611686018427387904 := by omega
  have b6 : yp.length ≤ 4611686018427387904 := by omega
  iterate 2 refine AOL.s1 (h := ?_)
  refine AOL.nil ?_
  repeat refine AW.seq ?_
  refine AW.let 1112 (h := ?_)
  refine AW.reg ?_
  iterate 2 refine AOL.s1 (h := ?_)
  refine AOL.nil ?_
  clear lx la b1 b2 b3 b4 b5 b6 ll
  obtain ⟨A2, hA2⟩ : ∃ A2, id (A2 = A1 ++ [yk, yv, yo, yr] ++ yp) := ⟨_, rfl⟩
  rw [show fm u1 A1 ++ [u yk, u yv, u yo, u yr] ++ fm u1 yp = fm u1 A2 by rw [show A2 = _ from hA2, fm_app, fm_app]; rfl]
  have lA2 : A2.length = a1 + 4 + yp.length := by rw [show A2 = _ from hA2, List.length_append, List.length_append, lA1]; rfl
  obtain ⟨a2, ha_⟩ : ∃ x, x = a1 + 4 + yp.length := ⟨_, rfl⟩
  rw [← ha_] at lA2
  rw [← ha_]
  replace ha : a2 ≤ 4 + 20 * (1 + 1) := by omega
  clear ha_
  clear lA1 a1

  refine AWin.next [1, 2, 5, 26, 27] (h := ?_)
  repeat refine AW.seq ?_
  refine AW.reg ?_
  iterate 1 refine AOL.s1 (h := ?_)
  refine AOL.nil ?_
  refine AW.kq [1, 2, 5, 26, 27, 28] (h := ?_)
  repeat refine AW.seq ?_
  refine AW.cond rfl (fun c_ => ?_) (fun c_ => ?_)
  · cases c_
  repeat refine AW.seq ?_
  refine AW.exit ?_
  repeat (first | refine Kseq.ex ?_ | refine Kloop.ex ?_ | refine Kblock.miss (by decide) ?_)
  refine Kblock.hit ?_
  refine AW.kq [2, 5] (h := ?_)
  repeat refine AW.seq ?_
  refine AW.reg ?_
  iterate 3 refine AOL.s1 (h := ?_)
  refine AOL.nil ?_
  refine AW.kq [5, 66, 67] (h := ?_)
  repeat refine AW.seq ?_
  refine AW.block ?_
  repeat refine AW.seq ?_
  refine AW.rounds ?_
  refine AWin.next [5, 66, 67] (h := ?_)
  repeat refine AW.seq ?_
  refine AW.reg ?_
  iterate 1 refine AOL.s1 (h := ?_)
  refine AOL.nil ?_
  refine AW.kq [5, 66, 67, 68] (h := ?_)
  repeat refine AW.seq ?_
  refine AW.cond rfl (fun c_ => ?_) (fun c_ => ?_)
  rotate_left
  · cases c_
  refine AW.skip ?_
  repeat refine AW.seq ?_
  refine AW.block ?_
  repeat refine AW.seq ?_
  refine AW.reg ?_
  iterate 3 refine AOL.s1 (h := ?_)
  refine AOL.nil ?_
  refine AW.kq [5, 9, 66, 67] (h := ?_)
  repeat refine AW.seq ?_
  have b1 : (a2 + 3) * 8 ≤ 140737488355328 := by omega
  have b2 : a2 + 3 ≤ 4611686018427387904 := by omega
  have b3 : a2 ≤ 4611686018427387901 := by omega
  have ll : (fm u1 A2).length = a2 := by rw [fm_len u1_len, Nat.mul_one, lA2]
  refine AW.reg ?_
  iterate 10 refine AOL.s1 (h := ?_)
  refine AOL.nil ?_
  repeat refine AW.seq ?_
  refine AW.let 1144 (h := ?_)
  refine AW.let 2232 (h := ?_)
  refine AW.reg ?_
  iterate 2 refine AOL.s1 (h := ?_)
  refine AOL.nil ?_
  clear b1 b2 b3 ll
  obtain ⟨A3, hA3⟩ : ∃ A3, id (A3 = A2 ++ [pv, po, pr]) := ⟨_, rfl⟩
  rw [show fm u1 A2 ++ [u pv, u po, u pr] = fm u1 A3 by rw [show A3 = _ from hA3, fm_app]; rfl]
  have lA3 : A3.length = a2 + 3 := by rw [show A3 = _ from hA3, List.length_append, lA2]; rfl
  obtain ⟨a3, ha_⟩ : ∃ x, x = a2 + 3 := ⟨_, rfl⟩
  rw [← ha_] at lA3
  rw [← ha_]
  replace ha : a3 ≤ 47 + 3 * 0 := by omega
  clear ha_
  clear lA2 a2
  refine AWin.next [5, 66, 67] (h := ?_)
  repeat refine AW.seq ?_
  refine AW.reg ?_
  iterate 1 refine AOL.s1 (h := ?_)
  refine AOL.nil ?_
  refine AW.kq [5, 66, 67, 68] (h := ?_)
  repeat refine AW.seq ?_
  refine AW.cond rfl (fun c_ => ?_) (fun c_ => ?_)
  rotate_left
  · cases c_
  refine AW.skip ?_
  repeat refine AW.seq ?_
  refine AW.block ?_
  repeat refine AW.seq ?_
  refine AW.reg ?_
  iterate 3 refine AOL.s1 (h := ?_)
  refine AOL.nil ?_
  refine AW.kq [5, 9, 66, 67] (h := ?_)
  repeat refine AW.seq ?_
  have b1 : (a3 + 3) * 8 ≤ 140737488355328 := by omega
  have b2 : a3 + 3 ≤ 4611686018427387904 := by omega
  have b3 : a3 ≤ 4611686018427387901 := by omega
  have ll : (fm u1 A3).length = a3 := by rw [fm_len u1_len, Nat.mul_one, lA3]
  refine AW.reg ?_
  iterate 10 refine AOL.s1 (h := ?_)
  refine AOL.nil ?_
  repeat refine AW.seq ?_
  refine AW.let 1144 (h := ?_)
  refine AW.let 2232 (h := ?_)
  refine AW.reg ?_
  iterate 2 refine AOL.s1 (h := ?_)
  refine AOL.nil ?_
  clear b1 b2 b3 ll
  obtain ⟨A4, hA4⟩ : ∃ A4, id (A4 = A3 ++ [qv, qo, qr]) := ⟨_, rfl⟩
  rw [show fm u1 A3 ++ [u qv, u qo, u qr] = fm u1 A4 by rw [show A4 = _ from hA4, fm_app]; rfl]
  have lA4 : A4.length = a3 + 3 := by rw [show A4 = _ from hA4, List.length_append, lA3]; rfl
  obtain ⟨a4, ha_⟩ : ∃ x, x = a3 + 3 := ⟨_, rfl⟩
  rw [← ha_] at lA4
  rw [← ha_]
  replace ha : a4 ≤ 47 + 3 * 1 := by omega
  clear ha_
  clear lA3 a3
  refine AWin.next [5, 66, 67] (h := ?_)
  repeat refine AW.seq ?_
  refine AW.reg ?_
  iterate 1 refine AOL.s1 (h := ?_)
  refine AOL.nil ?_
  refine AW.kq [5, 66, 67, 68] (h := ?_)
  repeat refine AW.seq ?_
  refine AW.cond rfl (fun c_ => ?_) (fun c_ => ?_)
  · cases c_
  repeat refine AW.seq ?_
  refine AW.exit ?_
  repeat (first | refine Kseq.ex ?_ | refine Kloop.ex ?_ | refine Kblock.miss (by decide) ?_)
  refine Kblock.hit ?_
  refine AW.kq [5] (h := ?_)
  have wA : wV A4 := by
    rw [show A4 = _ from hA4, show A3 = _ from hA3, show A2 = _ from hA2, show A1 = _ from hA1, show A0 = _ from hA0]
    intro v hv
    simp only [List.mem_append, List.mem_cons, List.not_mem_nil, or_false] at hv
    rcases hv with ((((((h | h | h | h) | (h | h | h | h)) | h) | (h | h | h | h)) | h) | (h | h | h)) | (h | h | h)
    all_goals first | (subst h; assumption) | exact x6 v h | exact y6 v h
  have hf : fitsH ⟨mr, mi, mo, ms, ⟨xk, (xv, xo, xr), xa, xp⟩, ⟨yk, (yv, yo, yr), ya, yp⟩, (pv, po, pr), (qv, qo, qr)⟩ dn = A4.all bw := by
    rw [show A4 = _ from hA4, show A3 = _ from hA3, show A2 = _ from hA2, show A1 = _ from hA1, show A0 = _ from hA0]
    unfold fitsH hdF inF outF
    simp only [Int.toNat_natCast, List.all_append, List.all_cons, List.all_nil, Bool.and_true]
    rw [show decide (1 ≤ (dn:Int) ∧ (dn:Int) ≤ 16) = true from hdt, show _ = true from e0, show _ = true from e1]
    simp only [Bool.true_and]
    ac_rfl
  have hfl : AV.sl a4 (sub 0 (a4 * 1) (fm u1 A4)) = ul A4 := by rw [← lA4, sub_all (by rw [fm_len u1_len]; exact Nat.le_refl _)]
  refine AW.fz 1384 rfl (fun h => by cases h) (h := ?_)
  rw [hfl]
  clear hfl
  have cf := slices_ContainsFunc_uint64_uint64_c (V := A4) (g := 71) (p := fun v => decide (v ≥ 288230376287764481)) (by omega) wA (by kernel_rfl) (fun v hv => circuit_fits_1_c (wA v hv))
  have ea := any_bw A4
  replace hf : id (_ = _) := hf
  replace ea : id (_ = _) := ea
  repeat refine AW.seq ?_
  refine AW.reg ?_
  iterate 1 refine AOL.s1 (h := ?_)
  refine AOL.callD rfl (cf) (by kernel_rfl) rfl rfl (h := ?_)
  iterate 2 refine AOL.s1 (h := ?_)
  refine AOL.nil ?_
  refine AW.kq [4] (h := ?_)
  repeat refine AW.seq ?_
  refine AW.ret ?_
  refine ⟨_, [], rfl, HOk.nil _, ?_⟩
  rw [show _ = _ from hf, ← show _ = _ from ea]
  rfl
end Go.Proofs.YtngphcdhdllnnaaGreat.E.M
end
section
/- circuit.Numbers: a move's public numbers: a contract over E. -/
set_option linter.unusedVariables false
set_option linter.unusedSimpArgs false
set_option maxRecDepth 10000
open Go Go.Proofs.YtngphcdhdllnnaaGreat.E Go.Proofs
namespace Go.Proofs.YtngphcdhdllnnaaGreat.E.M
def numsH (m : Mv) : List Int := [m.r, m.i, m.o, m.s, endH m.x, endH m.y, mrkH m.p, mrkH m.q, twoH (twoH m.x.k 1) m.s, twoH (twoH m.y.k 1) m.s]
abbrev errA : AV := .val (.iface 41 (.int .i64 1))
theorem manyH_w (V : List Int) : w64 (manyH V) := (manyH_l V).w
set_option maxHeartbeats 16000000 in
theorem circuit_Numbers_c {m : Mv} {d : Int} (hm : wM m) : Fn Tryz.prog 27 [.agg (mvc m), i d] [] (fun r _ => r = if fitsH m d = true then .tup [ul (numsH m), .val .nilIface] else .tup [.val (.slice none 0 0), errA]) := by
  have cF := circuit_fits_c (d := d) hm
  have hF : fitsH m d = true → (0 ≤ m.x.a ∧ 0 ≤ m.y.a) := by
    intro h
    simp only [fitsH, inF, Bool.and_eq_true, decide_eq_true_eq] at h
    omega
  generalize fitsH m d = ft at *
  obtain ⟨mr, mi, mo, ms, ⟨xk, ⟨xv, xo, xr⟩, xa, xp⟩, ⟨yk, ⟨yv, yo, yr⟩, ya, yp⟩, ⟨pv, po, pr⟩, ⟨qv, qo, qr⟩⟩ := m
  obtain ⟨w1, w2, w3, w4, ⟨x1, ⟨x2, x3, x4⟩, x5, x6, x7⟩, ⟨y1, ⟨y2, y3, y4⟩, y5, y6, y7⟩, ⟨p1, p2, p3⟩, ⟨q1, q2, q3⟩⟩ := hm
  simp only at w1 w2 w3 w4 x1 x2 x3 x4 x5 x6 x7 y1 y2 y3 y4 y5 y6 y7 p1 p2 p3 q1 q2 q3 hF
  have n0 : Int.toNat 0 = 0 := rfl
  have n1 : Int.toNat 1 = 1 := rfl
  have q0 : (0:Int) ≤ 0 := by decide
  have q1' : (0:Int) ≤ 1 := by decide
  have x02 : (0:Int) < ((2:Nat):Int) := by decide
  have x12 : (1:Int) < ((2:Nat):Int) := by decide
  have z02 : (0:Int) < 2 := by decide
  have z12 : (1:Int) < 2 := by decide
  have a1 : IntKind.i64.wrap (0 + 1) = 1 := by decide
  have a2 : IntKind.i64.wrap (1 + 1) = 2 := by decide
  have i02 : decide ((0:Int) < 2) = true := rfl
  have i12 : decide ((1:Int) < 2) = true := rfl
  have i22 : decide ((2:Int) < 2) = false := rfl
  show Fn Tryz.prog 27 [.agg [u mr, u mi, u mo, u ms, u xk, u xv, u xo, u xr, i xa, ul xp, u yk, u yv, u yo, u yr, i ya, ul yp, u pv, u po, u pr, u qv, u qo, u qr], i d] [] _
  replace cF : Fn Tryz.prog 54 [.agg [u mr, u mi, u mo, u ms, u xk, u xv, u xo, u xr, i xa, ul xp, u yk, u yv, u yo, u yr, i ya, ul yp, u pv, u po, u pr, u qv, u qo, u qr], i d] [] (fun r _ => r = bo ft) := cF
  refine Fn.enter Tryz.func27 Tryz.ntmps27 rfl (h := ?_)
  have tf := tfv
  have tfr := tfr
  have ot_ : (false || true) = true := rfl
  repeat refine AW.seq ?_
  refine AW.reg ?_
  iterate 3 refine AOL.s1 (h := ?_)
  refine AOL.nil ?_
  refine AW.kq [1, 2] (h := ?_)
  repeat refine AW.seq ?_
  refine AW.reg ?_
  iterate 2 refine AOL.s1 (h := ?_)
  refine AOL.callD rfl (cF) (by kernel_rfl) rfl rfl (h := ?_)
  iterate 1 refine AOL.s1 (h := ?_)
  refine AOL.nil ?_
  refine AW.kq [2, 16] (h := ?_)
  repeat refine AW.seq ?_
  refine AW.cond rfl (fun c_ => ?_) (fun c_ => ?_)
  · have e : ft = false := by simpa using c_
    repeat refine AW.seq ?_
    refine AW.reg ?_
    iterate 3 refine AOL.s1 (h := ?_)
    refine AOL.nil ?_
    refine AW.kq [4, 5] (h := ?_)
    repeat refine AW.seq ?_
    refine AW.ret ?_
    refine ⟨_, [], rfl, HOk.nil _, ?_⟩
    rw [e]; rfl
  have e : ft = true := by simpa using c_
  obtain ⟨xa0, ya0⟩ := hF e
  rw [if_pos e]
  clear c_ e hF cF
  have xw : IntKind.u64.wrap xa = xa := i64_o xa0 x5
  have yw : IntKind.u64.wrap ya = ya := i64_o ya0 y5
  have xaw : w64 xa := ⟨xa0, by omega⟩
  have yaw : w64 ya := ⟨ya0, by omega⟩
  refine AW.skip ?_
  repeat refine AW.seq ?_
  refine AW.reg ?_
  iterate 10 refine AOL.s1 (h := ?_)
  refine AOL.nil ?_
  refine AW.kq [2, 6] (h := ?_)
  repeat refine AW.seq ?_
  refine AW.reg ?_
  iterate 1 refine AOL.s1 (h := ?_)
  refine AOL.nil ?_
  refine AW.kq [2, 6, 7] (h := ?_)
  refine AW.born 7 9001 22 1 (.inl rfl) (h := ?_)
  repeat refine AW.seq ?_
  refine AW.reg ?_
  iterate 3 refine AOL.s1 (h := ?_)
  refine AOL.nil ?_
  refine AW.kq [2, 6, 7, 28, 29] (h := ?_)
  repeat refine AW.seq ?_
  refine AW.block ?_
  repeat refine AW.seq ?_
  refine AW.rounds ?_
  refine AWin.next [2, 6, 7, 28, 29] (h := ?_)
  repeat refine AW.seq ?_
  refine AW.reg ?_
  iterate 1 refine AOL.s1 (h := ?_)
  refine AOL.nil ?_
  refine AW.kq [2, 6, 7, 28, 29, 30] (h := ?_)
  repeat refine AW.seq ?_
  refine AW.cond rfl (fun c_ => ?_) (fun c_ => ?_)
  rotate_left
  · cases c_
  refine AW.skip ?_
  repeat refine AW.seq ?_
  refine AW.block ?_
  repeat refine AW.seq ?_
  refine AW.reg ?_
  iterate 3 refine AOL.s1 (h := ?_)
  refine AOL.nil ?_
  refine AW.kq [2, 6, 7, 9, 28, 29] (h := ?_)
  repeat refine AW.seq ?_
  refine AW.reg ?_
  iterate 2 refine AOL.s1 (h := ?_)
  refine AOL.callD rfl (cube_Two_c (a := xk) (b := 1) x1 (by decide)) (by kernel_rfl) rfl rfl (h := ?_)
  iterate 1 refine AOL.s1 (h := ?_)
  refine AOL.nil ?_
  refine AW.kq [2, 6, 7, 9, 10, 28, 29] (h := ?_)
  repeat refine AW.seq ?_
  obtain ⟨hx, hhx⟩ : ∃ h, id (h = twoH xk 1) := ⟨_, rfl⟩
  rw [← show hx = _ from hhx]
  have whx : w64 hx := by rw [show hx = _ from hhx]; exact (twoH_l _ _).w
  have wvx : wV [hx, xr, xa] := by
    intro v hv
    simp only [List.mem_cons, List.not_mem_nil, or_false] at hv
    rcases hv with rfl | rfl | rfl <;> assumption
  refine AW.reg ?_
  iterate 9 refine AOL.s1 (h := ?_)
  refine AOL.fz 1688 rfl (fun h => by cases h) (h := ?_)
  refine AOL.callD rfl (cube_Many_c (V := [hx, xr, xa]) wvx (by simp)) (by kernel_rfl) rfl rfl (h := ?_)
  iterate 3 refine AOL.s1 (h := ?_)
  refine AOL.nil ?_
  refine AW.kq [2, 6, 7, 10, 28, 29] (h := ?_)
  repeat refine AW.seq ?_
  refine AW.reg ?_
  iterate 4 refine AOL.s1 (h := ?_)
  refine AOL.callD rfl (cube_Two_c (a := hx) (b := ms) whx w4) (by kernel_rfl) rfl rfl (h := ?_)
  iterate 3 refine AOL.s1 (h := ?_)
  refine AOL.nil ?_
  repeat refine AW.seq ?_
  refine AW.let 1144 (h := ?_)
  refine AW.let 1720 (h := ?_)
  refine AW.let 1832 (h := ?_)
  refine AW.reg ?_
  iterate 2 refine AOL.s1 (h := ?_)
  refine AOL.nil ?_
  refine AWin.next [2, 6, 7, 28, 29] (h := ?_)
  repeat refine AW.seq ?_
  refine AW.reg ?_
  iterate 1 refine AOL.s1 (h := ?_)
  refine AOL.nil ?_
  refine AW.kq [2, 6, 7, 28, 29, 30] (h := ?_)
  repeat refine AW.seq ?_
  refine AW.cond rfl (fun c_ => ?_) (fun c_ => ?_)
  rotate_left
  · cases c_
  refine AW.skip ?_
  repeat refine AW.seq ?_
  refine AW.block ?_
  repeat refine AW.seq ?_
  refine AW.reg ?_
  iterate 3 refine AOL.s1 (h := ?_)
  refine AOL.nil ?_
  refine AW.kq [2, 6, 7, 9, 28, 29] (h := ?_)
  repeat refine AW.seq ?_
  refine AW.reg ?_
  iterate 2 refine AOL.s1 (h := ?_)
  refine AOL.callD rfl (cube_Two_c (a := yk) (b := 1) y1 (by decide)) (by kernel_rfl) rfl rfl (h := ?_)
  iterate 1 refine AOL.s1 (h := ?_)
  refine AOL.nil ?_
  refine AW.kq [2, 6, 7, 9, 10, 28, 29] (h := ?_)
  repeat refine AW.seq ?_
  obtain ⟨hy, hhy⟩ : ∃ h, id (h = twoH yk 1) := ⟨_, rfl⟩
  rw [← show hy = _ from hhy]
  have why : w64 hy := by rw [show hy = _ from hhy]; exact (twoH_l _ _).w
  have wvy : wV [hy, yr, ya] := by
    intro v hv
    simp only [List.mem_cons, List.not_mem_nil, or_false] at hv
    rcases hv with rfl | rfl | rfl <;> assumption
  refine AW.reg ?_
  iterate 9 refine AOL.s1 (h := ?_)
  refine AOL.fz 1688 rfl (fun h => by cases h) (h := ?_)
  refine AOL.callD rfl (cube_Many_c (V := [hy, yr, ya]) wvy (by simp)) (by kernel_rfl) rfl rfl (h := ?_)
  iterate 3 refine AOL.s1 (h := ?_)
  refine AOL.nil ?_
  refine AW.kq [2, 6, 7, 10, 28, 29] (h := ?_)
  repeat refine AW.seq ?_
  refine AW.reg ?_
  iterate 4 refine AOL.s1 (h := ?_)
  refine AOL.callD rfl (cube_Two_c (a := hy) (b := ms) why w4) (by kernel_rfl) rfl rfl (h := ?_)
  iterate 3 refine AOL.s1 (h := ?_)
  refine AOL.nil ?_
  repeat refine AW.seq ?_
  refine AW.let 1144 (h := ?_)
  refine AW.let 1720 (h := ?_)
  refine AW.let 1832 (h := ?_)
  refine AW.reg ?_
  iterate 2 refine AOL.s1 (h := ?_)
  refine AOL.nil ?_
  refine AWin.next [2, 6, 7, 28, 29] (h := ?_)
  repeat refine AW.seq ?_
  refine AW.reg ?_
  iterate 1 refine AOL.s1 (h := ?_)
  refine AOL.nil ?_
  refine AW.kq [2, 6, 7, 28, 29, 30] (h := ?_)
  repeat refine AW.seq ?_
  refine AW.cond rfl (fun c_ => ?_) (fun c_ => ?_)
  · cases c_
  repeat refine AW.seq ?_
  refine AW.exit ?_
  repeat (first | refine Kseq.ex ?_ | refine Kloop.ex ?_ | refine Kblock.miss (by decide) ?_)
  refine Kblock.hit ?_
  refine AW.kq [2, 6, 7] (h := ?_)
  repeat refine AW.seq ?_
  refine AW.reg ?_
  iterate 3 refine AOL.s1 (h := ?_)
  refine AOL.nil ?_
  refine AW.kq [6, 7, 56, 57] (h := ?_)
  repeat refine AW.seq ?_
  refine AW.block ?_
  repeat refine AW.seq ?_
  refine AW.rounds ?_
  refine AWin.next [6, 7, 56, 57] (h := ?_)
  repeat refine AW.seq ?_
  refine AW.reg ?_
  iterate 1 refine AOL.s1 (h := ?_)
  refine AOL.nil ?_
  refine AW.kq [6, 7, 56, 57, 58] (h := ?_)
  repeat refine AW.seq ?_
  refine AW.cond rfl (fun c_ => ?_) (fun c_ => ?_)
  rotate_left
  · cases c_
  refine AW.skip ?_
  repeat refine AW.seq ?_
  refine AW.block ?_
  repeat refine AW.seq ?_
  refine AW.reg ?_
  iterate 3 refine AOL.s1 (h := ?_)
  refine AOL.nil ?_
  refine AW.kq [6, 7, 12, 56, 57] (h := ?_)
  repeat refine AW.seq ?_
  refine AW.reg ?_
  iterate 2 refine AOL.s1 (h := ?_)
  refine AOL.callD rfl (circuit_mark_c (n := (pv, po, pr)) ⟨p1, p2, p3⟩) (by kernel_rfl) rfl rfl (h := ?_)
  iterate 3 refine AOL.s1 (h := ?_)
  refine AOL.nil ?_
  repeat refine AW.seq ?_
  refine AW.let 1192 (h := ?_)
  refine AW.let 2008 (h := ?_)
  refine AW.reg ?_
  iterate 2 refine AOL.s1 (h := ?_)
  refine AOL.nil ?_
  refine AWin.next [6, 7, 56, 57] (h := ?_)
  repeat refine AW.seq ?_
  refine AW.reg ?_
  iterate 1 refine AOL.s1 (h := ?_)
  refine AOL.nil ?_
  refine AW.kq [6, 7, 56, 57, 58] (h := ?_)
  repeat refine AW.seq ?_
  refine AW.cond rfl (fun c_ => ?_) (fun c_ => ?_)
  rotate_left
  · cases c_
  refine AW.skip ?_
  repeat refine AW.seq ?_
  refine AW.block ?_
  repeat refine AW.seq ?_
  refine AW.reg ?_
  iterate 3 refine AOL.s1 (h := ?_)
  refine AOL.nil ?_
  refine AW.kq [6, 7, 12, 56, 57] (h := ?_)
  repeat refine AW.seq ?_
  refine AW.reg ?_
  iterate 2 refine AOL.s1 (h := ?_)
  refine AOL.callD rfl (circuit_mark_c (n := (qv, qo, qr)) ⟨q1, q2, q3⟩) (by kernel_rfl) rfl rfl (h := ?_)
  iterate 3 refine AOL.s1 (h := ?_)
  refine AOL.nil ?_
  repeat refine AW.seq ?_
  refine AW.let 1192 (h := ?_)
  refine AW.let 2008 (h := ?_)
  refine AW.reg ?_
  iterate 2 refine AOL.s1 (h := ?_)
  refine AOL.nil ?_
  refine AWin.next [6, 7, 56, 57] (h := ?_)
  repeat refine AW.seq ?_
  refine AW.reg ?_
  iterate 1 refine AOL.s1 (h := ?_)
  refine AOL.nil ?_
  refine AW.kq [6, 7, 56, 57, 58] (h := ?_)
  repeat refine AW.seq ?_
  refine AW.cond rfl (fun c_ => ?_) (fun c_ => ?_)
  · cases c_
  repeat refine AW.seq ?_
  refine AW.exit ?_
  repeat (first | refine Kseq.ex ?_ | refine Kloop.ex ?_ | refine Kblock.miss (by decide) ?_)
  refine Kblock.hit ?_
  refine AW.kq [6, 7] (h := ?_)
  repeat refine AW.seq ?_
  refine AW.reg ?_
  iterate 5 refine AOL.s1 (h := ?_)
  refine AOL.nil ?_
  refine AW.kq [4, 5] (h := ?_)
  refine AW.fz 1416 rfl (fun h => by cases h) (h := ?_)
  repeat refine AW.seq ?_
  refine AW.ret ?_
  refine ⟨_, [], rfl, HOk.nil _, ?_⟩
  simp only [numsH, endH, mrkH]
  rw [← show hx = _ from hhx, ← show hy = _ from hhy]
  generalize manyH [hx, xr, xa] = g1
  generalize manyH [hy, yr, ya] = g2
  generalize manyH [pv, po, pr] = g3
  generalize manyH [qv, qo, qr] = g4
  generalize twoH hx ms = g5
  generalize twoH hy ms = g6
  rfl
end Go.Proofs.YtngphcdhdllnnaaGreat.E.M
end
section
/- obollaw12: deeds of a maker; systems that are the same: contracts over E. -/
set_option linter.unusedVariables false
set_option linter.unusedSimpArgs false
set_option maxRecDepth 10000
open Go Go.Proofs.YtngphcdhdllnnaaGreat.E Go.Proofs
namespace Go.Proofs.YtngphcdhdllnnaaGreat.E.M
/-- a new maker is laid -/
theorem AOL.callNew {ops : Array Oper} {o : Oper} {os : List Oper} {K : St → Prop} {st st' : St} {b : Nat}
    (hc : callL st ops.toList o = some (9, []))
    (hst : ({ (st.drops [b, b + 1, b + 2]) with h := ins (b + 2) (vlB [1]) (ins (b + 1) (rwB []) (ins b (mkB mk0 (b + 1) (b + 2)) (st.drops [b, b + 1, b + 2]).h)) } : St).put o.dst (.ptr b 0) = st')
    (h : AOL Tryz.prog ops os K st') (hb : 1000 ≤ b := by decide) : AOL Tryz.prog ops (o :: os) K st := by
  refine AOL.callT (las := []) (hin := []) [] b gadget_New_c hc rfl (by kernel_rfl) (by simp [labss]) (by simp) ?_ ?_ h (by simp) (by simp) hb
  · refine ⟨?_, ?_, ?_, ?_, ?_⟩
    · intro p hp
      simp only [List.mem_cons, List.not_mem_nil, or_false] at hp
      rcases hp with rfl | rfl | rfl <;> simp
    · intro p hp
      simp only [List.mem_cons, List.not_mem_nil, or_false] at hp
      rcases hp with rfl | rfl | rfl <;> simp
    · intro k hk; simp [labs] at hk; subst hk; simp [hlabs]
    · intro p hp
      simp only [List.mem_cons, List.not_mem_nil, or_false] at hp
      rcases hp with rfl | rfl | rfl
      · intro k hk; simp [labss, labs] at hk; rcases hk with rfl | rfl <;> simp [hlabs]
      · intro k hk; simp only [rw_labs] at hk; cases hk
      · intro k hk; simp only [u1_labs] at hk; cases hk
    · intro x hx y hy
      simp only [hlabs, List.map_cons, List.map_nil, List.mem_cons, List.not_mem_nil, or_false] at hx hy
      rcases hx with rfl | rfl | rfl <;> rcases hy with rfl | rfl | rfl <;> simp [sig, nth, pos]
  · rw [← hst]
    simp only [St.after, mkNew, consumed, newNames, get?, putH, sig, nth, pos, renB, rens, ren, rw_rens, u1_rens, Nat.reduceLT, Nat.reduceEqDiff, if_true, if_false, reduceIte, Nat.reduceAdd, Nat.zero_add, Nat.add_zero, List.cons_append, List.nil_append]
/-- a maker tells its system and its values -/
theorem AOL.callDone {ops : Array Oper} {o : Oper} {os : List Oper} {K : St → Prop} {st st' : St} {m : Mk} {l b : Nat} (hm : Mok 0 m ∧ rok m.rows)
    (hc : callL st ops.toList o = some (18, [.ptr l 0]))
    (h0 : get? l st.h = some (mkB m (b + 1) (b + 2))) (h1 : get? (b + 1) st.h = some (rwB m.rows)) (h2 : get? (b + 2) st.h = some (vlB m.vals))
    (hst : ({ (st.drops [b + 1, b + 2, b + 1, b + 2, b + 3]) with h := ins (b + 3) (vlB m.vals) (ins (b + 2) (vlB m.vals) (ins (b + 1) (rwB m.rows) (ins l (mkB m (b + 1) (b + 2)) (st.drops [b + 1, b + 2, b + 1, b + 2, b + 3]).h))) } : St).put o.dst (.tup [.agg [i m.v, i m.p, slF rw_ m.rows], .ref (b + 3) 0 m.vals.length 1]) = st')
    (h : AOL Tryz.prog ops os K st') (hl : l ≠ b + 1 ∧ l ≠ b + 2 ∧ l ≠ b + 3 := by decide) (hb : 1000 ≤ b := by decide) : AOL Tryz.prog ops (o :: os) K st := by
  refine AOL.callT (las := [.ptr 0 0]) (hin := mkIn m) [l, b + 1, b + 2] b (gadget_Maker_Done_c hm.1 hm.2) hc ?_ (by kernel_rfl) ?_ ?_ ?_ ?_ h ?_ (by simp) hb
  · simp only [rens, ren, nth]
  · intro k hk; simp [labss, labs] at hk; subst hk; simp
  · intro p hp
    simp only [List.mem_cons, List.not_mem_nil, or_false] at hp
    rcases hp with rfl | rfl | rfl
    · refine ⟨by simp, ?_, ?_⟩
      · intro k hk; simp [labss, labs] at hk; rcases hk with rfl | rfl <;> simp
      · simp only [nth, renB, rens, ren]; exact h0
    · refine ⟨by simp, ?_, ?_⟩
      · intro k hk; simp only [rw_labs] at hk; cases hk
      · simp only [nth, renB, rw_rens]; exact h1
    · refine ⟨by simp, ?_, ?_⟩
      · intro k hk; simp only [u1_labs] at hk; cases hk
      · simp only [nth, renB, u1_rens]; exact h2
  · refine ⟨?_, ?_, ?_, ?_, ?_⟩
    · intro p hp
      simp only [List.mem_cons, List.not_mem_nil, or_false] at hp
      rcases hp with rfl | rfl | rfl | rfl <;> simp
    · intro p hp
      simp only [List.mem_cons, List.not_mem_nil, or_false] at hp
      rcases hp with rfl | rfl | rfl | rfl <;> simp
    · intro k hk; simp [labs, labss] at hk; subst hk; simp [hlabs]
    · intro p hp
      simp only [List.mem_cons, List.not_mem_nil, or_false] at hp
      rcases hp with rfl | rfl | rfl | rfl
      · intro k hk; simp [labss, labs] at hk; rcases hk with rfl | rfl <;> simp [hlabs]
      · intro k hk; simp only [rw_labs] at hk; cases hk
      · intro k hk; simp only [u1_labs] at hk; cases hk
      · intro k hk; simp only [u1_labs] at hk; cases hk
    · intro x hx y hy
      simp only [hlabs, List.map_cons, List.map_nil, List.mem_cons, List.not_mem_nil, or_false] at hx hy
      rcases hx with rfl | rfl | rfl | rfl <;> rcases hy with rfl | rfl | rfl | rfl <;> simp [sig, nth, pos] <;> omega
  · rw [← hst]
    simp only [St.after, mkDone, consumed, newNames, get?, putH, sig, nth, pos, renB, rens, ren, rw_rens, u1_rens, Nat.reduceLT, Nat.reduceEqDiff, if_true, if_false, reduceIte, Nat.reduceAdd, Nat.zero_add, List.cons_append, List.nil_append]
  · simp; omega
def pkF (c : Int) : Int := (if c < 0 then -(c + 1) else c) % 9
structure Dd where
  what : Int
  a : Int
  b : Int
  n : Int
  k : Int
  L : List Tm
  V : List Int
  deriving Inhabited
abbrev dd (d : Dd) : List AV := [i d.what, i d.a, i d.b, i d.n, u d.k, slF tm d.L, il d.V]
def callMk (m : Mk) (d : Dd) : Mk :=
  if (pkF d.what == 0) = true then pubM m d.k else
  if (pkF d.what == 1) = true then freshM m d.k else
  if (pkF d.what == 2) = true then linM m d.L else
  if (pkF d.what == 3) = true then mulM m d.a d.b else
  if (pkF d.what == 4) = true then bitM m d.a d.n else
  if (pkF d.what == 5) = true then choM m d.n d.a d.b else
  if (pkF d.what == 6) = true then sameM m d.a d.b else
  if (pkF d.what == 7) = true then twoM m d.a d.b else
  (manE m d.V).1
end Go.Proofs.YtngphcdhdllnnaaGreat.E.M
end
section
/- circuit.Make: a move's system and its values. -/
set_option linter.unusedVariables false
set_option linter.unusedSimpArgs false
set_option maxRecDepth 10000
open Go Go.Proofs.YtngphcdhdllnnaaGreat.E Go.Proofs
namespace Go.Proofs.YtngphcdhdllnnaaGreat.E.M
def oneS : Nat → List Int
  | 0 => []
  | n + 1 => oneS n ++ [((n + 1 : Nat) : Int)]
/-- a maker of public variables alone -/
def pubK (V : List Int) : Mk := ⟨((V.length + 1 : Nat) : Int), V.length, [], 1 :: V.map fun v => v % 288230376287764481⟩
theorem pubK_s (V : List Int) (x : Int) : pubM (pubK V) x = pubK (V ++ [x]) := by
  unfold pubM
  rw [if_neg (by simp only [pubK]; omega)]
  simp [pubK, freshM]
theorem pubK_i (V : List Int) : pubI (pubK V) = ((V.length + 1 : Nat) : Int) := by
  unfold pubI
  rw [if_neg (by simp only [pubK]; omega)]
  simp [pubK]
theorem pubK_e (V : List Int) : pubE (pubK V) = .nilIface := by
  unfold pubE
  rw [if_neg (by simp only [pubK]; omega)]
theorem pubK_ok {V : List Int} (h : V.length ≤ 10) : Mok 900000 (pubK V) := by
  have e1 : (pubK V).vals.length = V.length + 1 := by simp [pubK]
  have e2 : (pubK V).rows.length = 0 := rfl
  refine ⟨by rw [e1]; omega, by rw [e2]; omega, ?_, by rw [e1]; omega⟩
  intro v hv
  simp only [pubK, List.mem_cons, List.mem_map] at hv
  rcases hv with rfl | ⟨w, _, rfl⟩
  · decide
  · exact ⟨Int.emod_nonneg _ (by decide), by have := Int.emod_lt_of_pos w (b := 288230376287764481) (by decide); omega⟩
/-- what is made of an output -/
def outM (m : Mk) (n : Int × Int × Int) (e : Int) : Mk :=
  let q1 := freshM m n.1
  let q2 := freshM q1 n.2.1
  let q3 := freshM q2 n.2.2
  let q4 := bitM q3 m.vals.length 32
  sameM (manE q4 [(m.vals.length : Int), q1.vals.length, q2.vals.length]).1 (manE q4 [(m.vals.length : Int), q1.vals.length, q2.vals.length]).2 e
theorem outM_ok {j : Nat} {m : Mk} (h : Mok (200 + j) m) (n : Int × Int × Int) (e : Int) : Mok j (outM m n e) := by
  unfold outM
  have o1 := Mok.fresh (k := 199 + j) (Mok.mono h (by omega)) n.1
  have o2 := Mok.fresh (k := 198 + j) (Mok.mono o1 (by omega)) n.2.1
  have o3 := Mok.fresh (k := 197 + j) (Mok.mono o2 (by omega)) n.2.2
  have o4 := bitM_ok (k := 80 + j) (Mok.mono o3 (by omega)) m.vals.length 32
  have o5 := manE_ok (k := 30 + j) (V := [(m.vals.length : Int), (freshM m n.1).vals.length, (freshM (freshM m n.1) n.2.1).vals.length]) (Mok.mono o4 (by simp; omega))
  exact Mok.row (Mok.mono o5 (by omega)) _ _ _
/-- the whole system, and the values -/
abbrev mkG1 (m : Mv) (d : Int) : Mk := inpM (pubK (numsH m)) m.x.k m.x.n.1 m.x.n.2.1 m.x.n.2.2 m.x.a m.x.p d 1 4 5 9
abbrev mkG2 (m : Mv) (d : Int) : Mk := inpM (mkG1 m d) m.y.k m.y.n.1 m.y.n.2.1 m.y.n.2.2 m.y.a m.y.p d 1 4 6 10
abbrev mkG3 (m : Mv) (d : Int) : Mk := outM (mkG2 m d) m.p 7
abbrev mkG4 (m : Mv) (d : Int) : Mk := outM (mkG3 m d) m.q 8
abbrev mkV1 (m : Mv) : Int := ((freshM (pubK (numsH m)) m.x.k).vals.length : Int)
abbrev mkV2 (m : Mv) (d : Int) : Int := ((freshM (mkG1 m d) m.y.k).vals.length : Int)
abbrev mkG5 (m : Mv) (d : Int) : Mk := linM (mkG4 m d) (sumS 0 1 [2, mkV1 m, mkV2 m d])
abbrev mkG6 (m : Mv) (d : Int) : Mk := linM (mkG5 m d) (sumS 0 1 [3, ((mkG2 m d).vals.length : Int), ((mkG3 m d).vals.length : Int)])
def makM (m : Mv) (d : Int) : Mk := sameM (mkG6 m d) (mkG4 m d).vals.length (mkG5 m d).vals.length
theorem numsH_w {m : Mv} (hm : wM m) : wV (numsH m) := by
  obtain ⟨w1, w2, w3, w4, _⟩ := hm
  intro v hv
  simp only [numsH, List.mem_cons, List.not_mem_nil, or_false] at hv
  rcases hv with rfl | rfl | rfl | rfl | rfl | rfl | rfl | rfl | rfl | rfl
  · exact w1
  · exact w2
  · exact w3
  · exact w4
  · exact manyH_w _
  · exact manyH_w _
  · exact manyH_w _
  · exact manyH_w _
  · exact (rAdd_l _ _).w
  · exact (rAdd_l _ _).w
end Go.Proofs.YtngphcdhdllnnaaGreat.E.M
end
section
/- What the rows of a maker say: the plain law. -/
set_option linter.unusedVariables false
set_option linter.unusedSimpArgs false
set_option maxRecDepth 10000
open Go Go.Proofs.YtngphcdhdllnnaaGreat.E Go.Proofs
namespace Go.Proofs.YtngphcdhdllnnaaGreat.E.M
def gV (V : List Int) (v : Int) : Int := if 0 ≤ v ∧ v < (V.length : Int) then V[v.toNat]?.getD 0 else 0
def lin (V : List Int) : List Tm → Int
  | [] => 0
  | t :: l => t.k * gV V t.v + lin V l
theorem valF_lin (V : List Int) : ∀ (L : List Tm) {o : Int}, 0 ≤ o → o < 288230376287764481 → valF V o L = (o + lin V L) % 288230376287764481
  | [], o, h0, h1 => by simp only [valF, lin]; omega
  | t :: l, o, h0, h1 => by
    simp only [valF, lin, gV]
    split
    · rename_i h
      rw [valF_lin V l (Int.emod_nonneg _ (by decide)) (Int.emod_lt_of_pos _ (by decide))]
      generalize t.k * (V[t.v.toNat]?.getD 0) = x
      omega
    · rename_i h
      rw [valF_lin V l h0 h1, Int.mul_zero, Int.zero_add]
def sumN : Nat → (Nat → Int) → Int
  | 0, _ => 0
  | n + 1, f => sumN n f + f n
theorem sumN_add (f g : Nat → Int) : ∀ n, sumN n (fun v => f v + g v) = sumN n f + sumN n g
  | 0 => rfl
  | n + 1 => by simp only [sumN, sumN_add f g n]; omega
theorem sumN_zero : ∀ {n : Nat} {f : Nat → Int}, (∀ v, v < n → f v = 0) → sumN n f = 0
  | 0, _, _ => rfl
  | n + 1, f, h => by simp only [sumN]; rw [sumN_zero fun v hv => h v (by omega), h n (by omega)]; rfl
theorem sumN_mod : ∀ {n : Nat} {f g : Nat → Int}, (∀ v, v < n → f v % 288230376287764481 = g v % 288230376287764481) → sumN n f % 288230376287764481 = sumN n g % 288230376287764481
  | 0, _, _, _ => rfl
  | n + 1, f, g, h => by
    simp only [sumN]
    have h1 := sumN_mod (n := n) fun v hv => h v (by omega)
    have h2 := h n (by omega)
    omega
theorem sumN_one (w : Int) (x : Int) : ∀ {n : Nat}, sumN n (fun v => (if w = (v : Int) then x else 0)) = if 0 ≤ w ∧ w < n then x else 0
  | 0 => by simp only [sumN]; rw [if_neg (by omega)]
  | n + 1 => by
    simp only [sumN, sumN_one w x (n := n)]
    by_cases h : w = n
    · rw [if_pos h, if_neg (by omega), if_pos (by omega)]; omega
    · rw [if_neg h]
      by_cases h2 : 0 ≤ w ∧ w < (n : Int)
      · rw [if_pos h2, if_pos (by omega)]; omega
      · rw [if_neg h2, if_neg (by omega)]; rfl
theorem lin_kS (V : List Int) : ∀ L : List Tm, lin V L = sumN V.length (fun v => kS (v : Int) L * gV V v)
  | [] => by
    rw [sumN_zero]
    · rfl
    · intro v _; simp only [kS, Int.zero_mul]
  | t :: l => by
    have e : (fun v : Nat => kS (v : Int) (t :: l) * gV V v) = fun v : Nat => (if t.v = (v : Int) then t.k * gV V t.v else 0) + kS (v : Int) l * gV V v := by
      funext v
      simp only [kS, Int.add_mul]
      split
      · rename_i h; rw [h]
      · rw [Int.zero_mul]
    rw [e, sumN_add, sumN_one, lin, ← lin_kS V l]
    congr 1
    unfold gV
    split <;> simp
theorem lin_sum (V : List Int) {L out : List Tm} (h : IsSum L out) : lin V out % 288230376287764481 = lin V L % 288230376287764481 := by
  rw [lin_kS, lin_kS]
  refine sumN_mod fun v hv => ?_
  rw [h.eq v (by omega), Int.mul_emod, Int.emod_emod, ← Int.mul_emod]
theorem val_lin (V : List Int) (L : List Tm) : valF V 0 L = lin V L % 288230376287764481 := by
  rw [valF_lin V L (by decide) (by decide), Int.zero_add]
theorem val_sum (V : List Int) (L : List Tm) : valF V 0 (sumT L) = valF V 0 L := by rw [val_lin, val_lin, lin_sum V (sumT_is L)]
theorem kS_ne {v : Int} {L : List Tm} (h : kS v L ≠ 0) : ∃ s ∈ L, s.v = v := by
  refine Classical.byContradiction fun hn => h (kS_zero fun s hs e => hn ⟨s, hs, e⟩)
theorem kS_at {t : Tm} : ∀ {out : List Tm}, out.Pairwise (fun a b => a.v < b.v) → t ∈ out → kS t.v out = t.k
  | s :: l, hu, ht => by
    obtain ⟨h1, h2⟩ := List.pairwise_cons.1 hu
    simp only [kS]
    rcases List.mem_cons.1 ht with rfl | ht
    · rw [if_pos rfl, kS_zero fun s hs => by have := h1 s hs; omega]; omega
    · have := h1 t ht
      rw [if_neg (by omega), kS_at h2 ht]; omega
theorem sumT_mem {L : List Tm} {t : Tm} (ht : t ∈ sumT L) : ∃ s ∈ L, s.v = t.v := by
  have h := sumT_is L
  have hp := h.pos t ht
  have h1 := kS_at h.up ht
  have h2 := h.eq t.v hp.1
  refine kS_ne fun e => ?_
  rw [e] at h2; omega
theorem snd_up {vars : Int} : ∀ {L : List Tm} {last : Int}, L.Pairwise (fun a b => a.v < b.v) → (∀ t ∈ L, last < t.v ∧ t.v < vars ∧ 1 ≤ t.k ∧ t.k < 288230376287764481) → sndF vars last L = true
  | [], _, _, _ => rfl
  | t :: l, last, hu, h => by
    obtain ⟨h1, h2⟩ := List.pairwise_cons.1 hu
    have ht := h t (by simp)
    simp only [sndF]
    rw [if_neg (by omega)]
    exact snd_up h2 fun s hs => by have := h s (List.mem_cons_of_mem _ hs); have := h1 s hs; omega
/-- all variables of a list are below n -/
abbrev blw (n : Nat) (L : List Tm) : Prop := ∀ t ∈ L, t.v < (n : Int)
theorem snd_sum {n : Nat} {L : List Tm} (h : blw n L) : sndF n (-1) (sumT L) = true := by
  have hs := sumT_is L
  refine snd_up hs.up fun t ht => ?_
  have hp := hs.pos t ht
  obtain ⟨s, hs1, hs2⟩ := sumT_mem ht
  have := h s hs1
  omega
theorem blw_sum {n : Nat} {L : List Tm} (h : blw n L) : blw n (sumT L) := fun t ht => by
  obtain ⟨s, hs1, hs2⟩ := sumT_mem ht
  rw [← hs2]; exact h s hs1
theorem gV_app {V : List Int} {v : Int} (h : v < V.length) (X : List Int) : gV (V ++ X) v = gV V v := by
  unfold gV
  by_cases h0 : 0 ≤ v
  · rw [if_pos ⟨h0, by rw [List.length_append]; omega⟩, if_pos ⟨h0, h⟩, List.getElem?_append_left (by omega)]
  · rw [if_neg (by omega), if_neg (by omega)]
theorem lin_app {V : List Int} (X : List Int) : ∀ {L : List Tm}, blw V.length L → lin (V ++ X) L = lin V L
  | [], _ => rfl
  | t :: l, h => by simp only [lin]; rw [gV_app (h t (by simp)), lin_app X fun s hs => h s (List.mem_cons_of_mem _ hs)]
theorem val_app {V : List Int} (X : List Int) {L : List Tm} (h : blw V.length L) : valF (V ++ X) 0 L = valF V 0 L := by rw [val_lin, val_lin, lin_app X h]
theorem gV_last (V : List Int) (x : Int) : gV (V ++ [x]) V.length = x := by
  unfold gV
  rw [if_pos ⟨by omega, by simp; omega⟩]; simp
theorem gV_at {V : List Int} {n : Nat} (h : n < V.length) : gV V n = V[n] := by
  unfold gV
  rw [if_pos ⟨by omega, by omega⟩]; simp [h]
theorem valM_g {V : List Int} (h : 0 < V.length) (a : Int) : valM V a = gV V (isM V a) := by
  have := isM_in h a
  unfold gV valM
  rw [if_pos this]
/-- a row holds -/
def rowH (V : List Int) (r : Rw) : Prop := valF V 0 r.a * valF V 0 r.b % 288230376287764481 = valF V 0 r.c
theorem rowH_sum (V : List Int) (a b c : List Tm) : rowH V ⟨sumT a, sumT b, sumT c⟩ ↔ lin V a * lin V b % 288230376287764481 = lin V c % 288230376287764481 := by
  unfold rowH
  rw [val_sum, val_sum, val_sum, val_lin, val_lin, val_lin, ← Int.mul_emod]
abbrev rblw (n : Nat) (r : Rw) : Prop := blw n r.a ∧ blw n r.b ∧ blw n r.c
theorem rowH_app {V : List Int} (X : List Int) {r : Rw} (h : rblw V.length r) : rowH (V ++ X) r ↔ rowH V r := by
  unfold rowH; rw [val_app X h.1, val_app X h.2.1, val_app X h.2.2]
/-- what a maker is like -/
structure Good (m : Mk) : Prop where
  v : m.v = m.vals.length
  p0 : 0 ≤ m.p
  p1 : m.p < m.vals.length
  one : m.vals.head? = some 1
  lt : ∀ v ∈ m.vals, 0 ≤ v ∧ v < 288230376287764481
  rows : ∀ r ∈ m.rows, ∃ a b c, r = ⟨sumT a, sumT b, sumT c⟩ ∧ blw m.vals.length a ∧ blw m.vals.length b ∧ blw m.vals.length c ∧ a.length < 1000000 ∧ b.length < 1000000 ∧ c.length < 1000000
/-- all rows hold -/
def AllH (m : Mk) : Prop := ∀ r ∈ m.rows, rowH m.vals r
theorem Good.ne {m : Mk} (h : Good m) : 0 < m.vals.length := by
  have := h.one
  cases hv : m.vals with
  | nil => rw [hv] at this; cases this
  | cons a l => simp
theorem Good.g0 {m : Mk} (h : Good m) : gV m.vals 0 = 1 := by
  have h0 := h.ne
  have h1 := h.one
  have e := gV_at h0
  rw [show ((0 : Nat) : Int) = 0 from rfl] at e
  rw [e]
  rw [List.head?_eq_getElem?, List.getElem?_eq_getElem h0] at h1
  exact Option.some.inj h1
theorem Good.glt {m : Mk} (h : Good m) (v : Int) : 0 ≤ gV m.vals v ∧ gV m.vals v < 288230376287764481 := by
  unfold gV
  split
  · rename_i hv
    have hl : v.toNat < m.vals.length := by omega
    rw [List.getElem?_eq_getElem hl]
    exact h.lt _ (List.getElem_mem hl)
  · decide
theorem blw_mono {n k : Nat} (h : n ≤ k) {L : List Tm} (hb : blw n L) : blw k L := fun t ht => by have := hb t ht; omega
theorem Good.fresh {m : Mk} (h : Good m) (x : Int) : Good (freshM m x) where
  v := by simp [freshM]
  p0 := h.p0
  p1 := by have := h.p1; simp only [freshM, List.length_append, List.length_singleton]; omega
  one := by
    have := h.one
    simp only [freshM]
    cases hv : m.vals with
    | nil => rw [hv] at this; cases this
    | cons a l => rw [hv] at this; simpa using this
  lt := fun v hv => by
    rcases List.mem_append.1 hv with hv | hv
    · exact h.lt v hv
    · simp only [List.mem_singleton] at hv; subst hv
      exact ⟨Int.emod_nonneg _ (by decide), Int.emod_lt_of_pos _ (by decide)⟩
  rows := fun r hr => by
    obtain ⟨a, b, c, e, ha, hb, hc, hl⟩ := h.rows r hr
    have hle : m.vals.length ≤ (freshM m x).vals.length := by simp [freshM]
    exact ⟨a, b, c, e, blw_mono hle ha, blw_mono hle hb, blw_mono hle hc, hl⟩
theorem Good.row {m : Mk} (h : Good m) {a b c : List Tm} (ha : blw m.vals.length a) (hb : blw m.vals.length b) (hc : blw m.vals.length c) (la : a.length < 1000000) (lb : b.length < 1000000) (lc : c.length < 1000000) : Good (rowM m a b c) where
  v := h.v
  p0 := h.p0
  p1 := h.p1
  one := h.one
  lt := h.lt
  rows := fun r hr => by
    rcases List.mem_append.1 hr with hr | hr
    · exact h.rows r hr
    · simp only [List.mem_singleton] at hr; subst hr
      exact ⟨a, b, c, rfl, ha, hb, hc, la, lb, lc⟩
theorem Good.rblw {m : Mk} (h : Good m) {r : Rw} (hr : r ∈ m.rows) : M.rblw m.vals.length r := by
  obtain ⟨a, b, c, rfl, ha, hb, hc, _⟩ := h.rows r hr
  exact ⟨blw_sum ha, blw_sum hb, blw_sum hc⟩
theorem AllH.fresh {m : Mk} (h : Good m) (x : Int) : AllH (freshM m x) ↔ AllH m := by
  unfold AllH
  constructor
  · intro k r hr; exact (rowH_app [x % 288230376287764481] (h.rblw hr)).1 (k r hr)
  · intro k r hr; exact (rowH_app [x % 288230376287764481] (h.rblw hr)).2 (k r hr)
theorem AllH.row {m : Mk} (a b c : List Tm) : AllH (rowM m a b c) ↔ AllH m ∧ lin m.vals a * lin m.vals b % 288230376287764481 = lin m.vals c % 288230376287764481 := by
  unfold AllH
  simp only [rowM, List.mem_append, List.mem_singleton]
  constructor
  · intro k; exact ⟨fun r hr => k r (.inl hr), (rowH_sum m.vals a b c).1 (k _ (.inr rfl))⟩
  · rintro ⟨k1, k2⟩ r (hr | rfl)
    · exact k1 r hr
    · exact (rowH_sum m.vals a b c).2 k2
end Go.Proofs.YtngphcdhdllnnaaGreat.E.M
end
section
/- What the rows of a maker's deeds say: the plain law. -/
set_option linter.unusedVariables false
set_option linter.unusedSimpArgs false
set_option maxRecDepth 10000
open Go Go.Proofs.YtngphcdhdllnnaaGreat.E Go.Proofs
namespace Go.Proofs.YtngphcdhdllnnaaGreat.E.M
theorem lin_1 (V : List Int) (v : Int) : lin V (one1 v) = gV V v := by simp [lin]
theorem lin_2 (V : List Int) (v w k : Int) : lin V (two1 v w k) = gV V v + k * gV V w := by simp [lin]
theorem lin_3 (V : List Int) (v a ka w kw : Int) : lin V (three1 v a ka w kw) = gV V v + (ka * gV V a + kw * gV V w) := by simp [lin]
theorem blw_1 {n : Nat} {v : Int} (h : v < n) : blw n (one1 v) := fun t ht => by simp only [List.mem_singleton] at ht; subst ht; exact h
theorem blw_2 {n : Nat} {v w k : Int} (h : v < n) (h2 : w < n) : blw n (two1 v w k) := fun t ht => by
  simp only [List.mem_cons, List.not_mem_nil, or_false] at ht
  rcases ht with rfl | rfl
  · exact h
  · exact h2
theorem blw_3 {n : Nat} {v a ka w kw : Int} (h : v < n) (h2 : a < n) (h3 : w < n) : blw n (three1 v a ka w kw) := fun t ht => by
  simp only [List.mem_cons, List.not_mem_nil, or_false] at ht
  rcases ht with rfl | rfl | rfl
  · exact h
  · exact h2
  · exact h3
theorem blw_nil {n : Nat} : blw n [] := fun t ht => by cases ht
theorem fresh_vals (m : Mk) (x : Int) : (freshM m x).vals = m.vals ++ [x % 288230376287764481] := rfl
theorem fresh_len (m : Mk) (x : Int) : (freshM m x).vals.length = m.vals.length + 1 := by simp [freshM]
/-- a law of a deed: all stays good, and what was told is told on -/
structure Law (m m' : Mk) (X : List Int) : Prop where
  good : Good m'
  vals : m'.vals = m.vals ++ X
  all : AllH m' ↔ AllH m
theorem Law.refl {m : Mk} (h : Good m) : Law m m [] := ⟨h, by simp, Iff.rfl⟩
theorem Law.trans {m m1 m2 : Mk} {X Y : List Int} (h : Law m m1 X) (k : Law m1 m2 Y) : Law m m2 (X ++ Y) := ⟨k.good, by rw [k.vals, h.vals, List.append_assoc], k.all.trans h.all⟩
theorem Law.len {m m' : Mk} {X : List Int} (h : Law m m' X) : m'.vals.length = m.vals.length + X.length := by rw [h.vals, List.length_append]
theorem Law.g {m m' : Mk} {X : List Int} (h : Law m m' X) {v : Int} (hv : v < m.vals.length) : gV m'.vals v = gV m.vals v := by rw [h.vals, gV_app hv]
theorem prod_law {m : Mk} (h : Good m) {a b : List Tm} (ha : blw m.vals.length a) (hb : blw m.vals.length b) (la : a.length < 1000000) (lb : b.length < 1000000) :
    Law m (prodM m a b) [lin m.vals a * lin m.vals b % 288230376287764481] := by
  have hx : valF m.vals 0 a * valF m.vals 0 b % 288230376287764481 % 288230376287764481 = lin m.vals a * lin m.vals b % 288230376287764481 := by
    rw [Int.emod_emod, val_lin, val_lin, ← Int.mul_emod]
  have hl := fresh_len m (valF m.vals 0 a * valF m.vals 0 b % 288230376287764481)
  have hv : (freshM m (valF m.vals 0 a * valF m.vals 0 b % 288230376287764481)).vals = m.vals ++ [lin m.vals a * lin m.vals b % 288230376287764481] := by rw [fresh_vals, hx]
  refine ⟨(h.fresh _).row (blw_mono (by omega) ha) (blw_mono (by omega) hb) (blw_1 (by omega)) la lb (by simp), hv, ?_⟩
  unfold prodM
  rw [AllH.row, AllH.fresh h, hv, lin_app _ ha, lin_app _ hb, lin_1, gV_last, Int.emod_emod]
  simp
theorem ownT_blw {V : List Int} (h : 0 < V.length) (L : List Tm) : blw V.length (ownT V L) := fun t ht => by
  obtain ⟨s, _, rfl⟩ := List.mem_map.1 ht
  exact (isM_in h s.v).2
theorem lin_law {m : Mk} (h : Good m) {L : List Tm} (hL : L.length < 1000000) : Law m (linM m L) [lin m.vals (ownT m.vals L) % 288230376287764481] := by
  have hx : valF m.vals 0 (ownT m.vals L) % 288230376287764481 = lin m.vals (ownT m.vals L) % 288230376287764481 := by
    rw [val_lin, Int.emod_emod]
  have hl := fresh_len m (valF m.vals 0 (ownT m.vals L))
  have hv : (freshM m (valF m.vals 0 (ownT m.vals L))).vals = m.vals ++ [lin m.vals (ownT m.vals L) % 288230376287764481] := by rw [fresh_vals, hx]
  have hb := ownT_blw h.ne L
  have h0 := h.ne
  refine ⟨(h.fresh _).row (blw_mono (by omega) hb) (blw_1 (by omega)) (blw_1 (by omega)) (by simp only [ownT, List.length_map]; exact hL) (by simp) (by simp), hv, ?_⟩
  unfold linM
  rw [AllH.row, AllH.fresh h, hv, lin_app _ hb, lin_1, lin_1, gV_last, gV_app (by omega), h.g0, Int.emod_emod, Int.mul_one]
  simp
theorem ownT_id {V : List Int} {L : List Tm} (h : ∀ t ∈ L, 0 ≤ t.v ∧ t.v < V.length) : ownT V L = L := by
  unfold ownT
  conv => rhs; rw [← List.map_id L]
  refine List.map_congr_left fun t ht => ?_
  have := h t ht
  unfold isM
  rw [if_neg (by omega)]; rfl
theorem valM_lt {m : Mk} (h : Good m) (a : Int) : 0 ≤ valM m.vals a ∧ valM m.vals a < 288230376287764481 := by rw [valM_g h.ne]; exact h.glt _
theorem same_law {m : Mk} (h : Good m) (a b : Int) : Good (sameM m a b) ∧ (AllH (sameM m a b) ↔ AllH m ∧ valM m.vals a = valM m.vals b) := by
  have i1 := isM_in h.ne a
  have i2 := isM_in h.ne b
  have v1 := valM_lt h a
  have v2 := valM_lt h b
  have h0 := h.ne
  refine ⟨h.row (blw_2 i1.2 i2.2) (blw_1 (by omega)) blw_nil (by simp) (by simp) (by simp), ?_⟩
  unfold sameM
  rw [AllH.row, lin_2, lin_1, h.g0, ← valM_g h0, ← valM_g h0]
  simp only [lin]
  constructor
  · rintro ⟨k1, k2⟩; exact ⟨k1, by omega⟩
  · rintro ⟨k1, k2⟩; exact ⟨k1, by omega⟩
theorem cho_law {m : Mk} (h : Good m) (c a b : Int) : ∃ x, Law m (choM m c a b) [x] := by
  have i0 := isM_in h.ne c
  have i1 := isM_in h.ne a
  have i2 := isM_in h.ne b
  have v2 := valM_lt h b
  have h0 := h.ne
  have hx : (valM m.vals b + valM m.vals c * valF m.vals 0 (sumT (two1 (isMk m a) (isMk m b) 288230376287764480)) % 288230376287764481) % 288230376287764481 % 288230376287764481 = (valM m.vals b + valM m.vals c * (valM m.vals a + 288230376287764480 * valM m.vals b)) % 288230376287764481 := by
    rw [val_sum, val_lin, lin_2, ← valM_g h0, ← valM_g h0, Int.emod_emod]
    rw [Int.mul_emod (valM m.vals c) ((valM m.vals a + 288230376287764480 * valM m.vals b) % 288230376287764481), Int.emod_emod, ← Int.mul_emod]
    generalize valM m.vals c * (valM m.vals a + 288230376287764480 * valM m.vals b) = z
    omega
  refine ⟨_, ⟨?_, by show (freshM m _).vals = _; rw [fresh_vals, hx], ?_⟩⟩
  · have hl := fresh_len m ((valM m.vals b + valM m.vals c * valF m.vals 0 (sumT (two1 (isMk m a) (isMk m b) 288230376287764480)) % 288230376287764481) % 288230376287764481)
    exact (h.fresh _).row (blw_1 (by show isM m.vals c < _; omega)) (blw_2 (by show isM m.vals a < _; omega) (by show isM m.vals b < _; omega)) (blw_2 (by omega) (by show isM m.vals b < _; omega)) (by simp) (by simp) (by simp)
  · unfold choM
    rw [AllH.row, AllH.fresh h, fresh_vals, hx, lin_1, lin_2, lin_2, gV_last, gV_app i0.2, gV_app i1.2, gV_app i2.2, ← valM_g h0, ← valM_g h0, ← valM_g h0]
    simp only [and_iff_left_iff_imp]
    intro _
    generalize valM m.vals c * (valM m.vals a + 288230376287764480 * valM m.vals b) = z
    omega
theorem ipow7 (j : Nat) (hj : j < 3) : ipow 288230376287764481 7 (j + 1) = 7 ^ (j + 1) % 288230376287764481 := by
  rw [ipow_eq (by decide) (by decide) (by constructor <;> omega)]
  rw [show ((j : Int) + 1).toNat = j + 1 by omega]
theorem cube_mod (L S : Int) (h : S = L % 288230376287764481) : L * L % 288230376287764481 * L % 288230376287764481 = rMul S (rMul S S) := by
  subst h
  unfold rMul
  simp only [Int.mul_emod, Int.emod_emod, Int.mul_comm]
theorem twoS_law (a : Int) : ∀ (n j : Nat) (m : Mk) (x c : Int), Good m → j + n = 3 → c = 7 ^ j % 288230376287764481 → 0 ≤ a → a < m.vals.length → 0 ≤ x → x < m.vals.length →
    ∃ X, Law m (twoS a n j m x).1 X ∧ 0 ≤ (twoS a n j m x).2 ∧ (twoS a n j m x).2 < (twoS a n j m x).1.vals.length ∧ gV (twoS a n j m x).1.vals (twoS a n j m x).2 = trn (gV m.vals a) n c (gV m.vals x)
  | 0, j, m, x, c, h, _, _, a0, a1, x0, x1 => ⟨[], Law.refl h, x0, x1, rfl⟩
  | n + 1, j, m, x, c, h, hj, hc, a0, a1, x0, x1 => by
    have h0 := h.ne
    have hp := ipow7 j (by omega)
    have hc' : rMul c 7 = 7 ^ (j + 1) % 288230376287764481 := by
      unfold rMul; rw [hc, Int.pow_succ, Int.mul_emod (7 ^ j % 288230376287764481), Int.emod_emod, ← Int.mul_emod]
    have b0 : blw m.vals.length (twoL a x j) := blw_3 x1 a1 (by omega)
    have l1 := prod_law h b0 b0 (by simp) (by simp)
    have n1 := l1.len
    have b1 : blw (prodM m (twoL a x j) (twoL a x j)).vals.length (twoL a x j) := blw_mono (by omega) b0
    have l2 := prod_law l1.good (a := one1 m.vals.length) (b := twoL a x j) (blw_1 (by simp at n1; omega)) b1 (by simp) (by simp)
    have n2 := l2.len
    simp only [List.length_singleton] at n1 n2
    have ll : lin (prodM m (twoL a x j) (twoL a x j)).vals (twoL a x j) = lin m.vals (twoL a x j) := by rw [l1.vals, lin_app _ b0]
    have lg : gV (prodM m (twoL a x j) (twoL a x j)).vals m.vals.length = lin m.vals (twoL a x j) * lin m.vals (twoL a x j) % 288230376287764481 := by rw [l1.vals, gV_last]
    rw [lin_1, lg, ll] at l2
    obtain ⟨X, l3, y0, y1, hy⟩ := twoS_law a n (j + 1) _ ((prodM m (twoL a x j) (twoL a x j)).vals.length : Int) (rMul c 7) l2.good (by omega) hc' a0 (by omega) (by omega) (by omega)
    refine ⟨_, (l1.trans l2).trans l3, y0, y1, ?_⟩
    show gV (twoS a n (j + 1) _ _).1.vals (twoS a n (j + 1) _ _).2 = _
    rw [hy, trn]
    have e1 : gV (prodM (prodM m (twoL a x j) (twoL a x j)) (one1 m.vals.length) (twoL a x j)).vals a = gV m.vals a := (l1.trans l2).g a1
    have e2 : gV (prodM (prodM m (twoL a x j) (twoL a x j)) (one1 m.vals.length) (twoL a x j)).vals (prodM m (twoL a x j) (twoL a x j)).vals.length = lin m.vals (twoL a x j) * lin m.vals (twoL a x j) % 288230376287764481 * lin m.vals (twoL a x j) % 288230376287764481 := by rw [l2.vals, gV_last]
    rw [e1, e2, cube_mod _ (rAdd (gV m.vals x) (rAdd (gV m.vals a) (rMul c 7)))]
    rw [lin_3, h.g0, hp, hc']
    unfold rAdd
    generalize (7:Int) ^ (j + 1) % 288230376287764481 = z
    omega
theorem two_law {m : Mk} (h : Good m) (a b : Int) : ∃ X, Law m (twoM m a b) X ∧ 0 ≤ twoR m a b ∧ twoR m a b < (twoM m a b).vals.length ∧ gV (twoM m a b).vals (twoR m a b) = twoH (valM m.vals a) (valM m.vals b) := by
  have h0 := h.ne
  have i1 := isM_in h0 a
  have i2 := isM_in h0 b
  obtain ⟨X, l1, x0, x1, hx⟩ : ∃ X, Law m (twoE m a b).1 X ∧ 0 ≤ (twoE m a b).2 ∧ (twoE m a b).2 < (twoE m a b).1.vals.length ∧ gV (twoE m a b).1.vals (twoE m a b).2 = trn (gV m.vals (isM m.vals a)) 3 1 (gV m.vals (isM m.vals b)) := twoS_law (isM m.vals a) 3 0 m (isM m.vals b) 1 h rfl (by decide) i1.1 i1.2 i2.1 i2.2
  have n1 := l1.len
  have l2 := lin_law l1.good (L := three1 (twoE m a b).2 (isM m.vals a) 2 (isM m.vals b) 1) (by simp)
  rw [ownT_id (V := (twoE m a b).1.vals) (by
    intro t ht
    simp only [List.mem_cons, List.not_mem_nil, or_false] at ht
    rcases ht with rfl | rfl | rfl
    · exact ⟨x0, x1⟩
    · exact ⟨i1.1, by rw [n1]; have := i1.2; show isM m.vals a < _; omega⟩
    · exact ⟨i2.1, by rw [n1]; have := i2.2; show isM m.vals b < _; omega⟩)] at l2
  have n2 := l2.len
  simp only [List.length_singleton] at n2
  refine ⟨_, l1.trans l2, by unfold twoR; omega, by unfold twoR twoM; rw [n2]; omega, ?_⟩
  unfold twoM twoR
  rw [l2.vals, gV_last, lin_3, hx, l1.g i1.2, l1.g i2.2, ← valM_g h0, ← valM_g h0]
  unfold twoH turnH rAdd
  generalize trn _ 3 1 _ = z
  omega
theorem man_law : ∀ (V : List Int) (m : Mk) (x : Int), Good m → 0 ≤ x → x < m.vals.length → ∃ X, Law m (manS V m x).1 X ∧ 0 ≤ (manS V m x).2 ∧ (manS V m x).2 < (manS V m x).1.vals.length
  | [], m, x, h, x0, x1 => ⟨[], Law.refl h, x0, x1⟩
  | v :: V, m, x, h, x0, x1 => by
    obtain ⟨X, l1, y0, y1, hy⟩ := two_law h x v
    obtain ⟨Y, l2, z0, z1⟩ := man_law V _ _ l1.good y0 y1
    exact ⟨_, l1.trans l2, z0, z1⟩
theorem many_law {m : Mk} (h : Good m) (V : List Int) : ∃ X, Law m (manE m V).1 X ∧ 0 ≤ (manE m V).2 ∧ (manE m V).2 < (manE m V).1.vals.length := by
  have l1 := lin_law h (L := [⟨0, V.length⟩]) (by simp)
  have n1 := l1.len
  simp only [List.length_singleton] at n1
  obtain ⟨X, l2, x0, x1⟩ := man_law V _ m.vals.length l1.good (by omega) (by omega)
  exact ⟨_, l1.trans l2, x0, x1⟩
end Go.Proofs.YtngphcdhdllnnaaGreat.E.M
end
section
/- What the rows of any deed say, and how a system looks: the plain law. -/
set_option linter.unusedVariables false
set_option linter.unusedSimpArgs false
set_option maxRecDepth 10000
open Go Go.Proofs.YtngphcdhdllnnaaGreat.E Go.Proofs
namespace Go.Proofs.YtngphcdhdllnnaaGreat.E.M
theorem lin_append (V : List Int) : ∀ a b : List Tm, lin V (a ++ b) = lin V a + lin V b
  | [], b => by simp [lin]
  | t :: a, b => by simp only [List.cons_append, lin, lin_append V a b]; omega
theorem bit_next (v : Int) (j : Nat) : v % 2 ^ (j + 1) = v % 2 ^ j + 2 ^ j * (v / 2 ^ j % 2) := by
  have hP : (0:Int) < 2 ^ j := Int.pow_pos (by decide)
  have e1 := Int.mul_ediv_add_emod v (2 ^ j)
  have e2 := Int.mul_ediv_add_emod (v / 2 ^ j) 2
  have r0 := Int.emod_nonneg v (show (2:Int) ^ j ≠ 0 by omega)
  have r1 := Int.emod_lt_of_pos v hP
  rw [Int.pow_succ]
  rcases Int.emod_two_eq (v / 2 ^ j) with hb | hb
  · rw [hb] at e2 ⊢
    refine (div_of (Q := v / 2 ^ j / 2) (by omega) ?_ (by omega) (by omega)).2
    rw [Int.mul_zero, Int.add_zero, Int.mul_comm (v / 2 ^ j / 2), Int.mul_assoc]
    rw [Int.add_zero] at e2
    rw [e2, e1]
  · rw [hb] at e2 ⊢
    refine (div_of (Q := v / 2 ^ j / 2) (by omega) ?_ (by omega) (by omega)).2
    have e3 : v / 2 ^ j / 2 * (2 ^ j * 2) = 2 ^ j * (2 * (v / 2 ^ j / 2)) := by
      rw [Int.mul_comm (v / 2 ^ j / 2), Int.mul_assoc]
    have e4 : 2 * (v / 2 ^ j / 2) = v / 2 ^ j - 1 := by omega
    rw [e3, e4, Int.mul_sub, Int.mul_one]
    omega
theorem isM_of {V : List Int} {a : Int} (h0 : 0 ≤ a) (h1 : a < V.length) : isM V a = a := by unfold isM; rw [if_neg (by omega)]
theorem bit_law1 {m : Mk} (h : Good m) {x : Int} (hx : x = 0 ∨ x = 1) : Law m (rowM (freshM m x) (one1 m.vals.length) (two1 m.vals.length 0 288230376287764480) []) [x] := by
  have h0 := h.ne
  have hl := fresh_len m x
  have e : x % 288230376287764481 = x := by omega
  have hv : (freshM m x).vals = m.vals ++ [x] := by rw [fresh_vals, e]
  refine ⟨(h.fresh x).row (blw_1 (by omega)) (blw_2 (by omega) (by omega)) blw_nil (by simp) (by simp) (by simp), hv, ?_⟩
  rw [AllH.row, AllH.fresh h, hv, lin_1, lin_2, gV_last, gV_app (by omega), h.g0]
  simp only [lin, and_iff_left_iff_imp]
  intro _
  rcases hx with rfl | rfl <;> decide
theorem bitS_law (a : Int) : ∀ (n j : Nat) (m : Mk) (o : List Int) (s : List Tm), Good m → 0 ≤ a → a < m.vals.length → lin m.vals s = gV m.vals a % 2 ^ j → blw m.vals.length s → s.length = j → j + n ≤ 58 →
    ∃ X, Law m (bitS a n j m o s).1 X ∧ lin (bitS a n j m o s).1.vals (bitS a n j m o s).2.2 = gV m.vals a % 2 ^ (j + n) ∧ blw (bitS a n j m o s).1.vals.length (bitS a n j m o s).2.2 ∧ (bitS a n j m o s).2.2.length = j + n
  | 0, j, m, o, s, h, _, _, hl, hb, hs, _ => ⟨[], Law.refl h, by simpa [bitS] using hl, hb, by simpa [bitS] using hs⟩
  | n + 1, j, m, o, s, h, a0, a1, hl, hb, hs, hj => by
    have hx : bitV m.vals a j = 0 ∨ bitV m.vals a j = 1 := by unfold bitV; exact Int.emod_two_eq _
    have l1 := bit_law1 h hx
    have n1 := l1.len
    simp only [List.length_singleton] at n1
    have hv : bitV m.vals a j = gV m.vals a / 2 ^ j % 2 := by unfold bitV; rw [valM_g h.ne, isM_of a0 a1]
    have hg := l1.g a1
    obtain ⟨X, l2, g1, g2, g3⟩ := bitS_law a n (j + 1) _ (o ++ [(m.vals.length : Int)]) (s ++ [⟨m.vals.length, 2 ^ j⟩]) l1.good a0 (by omega) (by
      rw [hg, lin_append, l1.vals, lin_app _ hb, hl, bit_next, hv]
      simp only [lin, gV_last, Int.add_zero]) (by
      intro t ht
      rcases List.mem_append.1 ht with ht | ht
      · have := hb t ht; omega
      · simp only [List.mem_singleton] at ht; subst ht; show (m.vals.length : Int) < _; omega) (by rw [List.length_append, hs]; rfl) (by omega)
    rw [hg] at g1
    refine ⟨_, l1.trans l2, ?_, g2, ?_⟩
    · rw [show j + (n + 1) = j + 1 + n by omega]; exact g1
    · rw [show j + (n + 1) = j + 1 + n by omega]; exact g3
theorem div_zero {v : Int} (h0 : 0 ≤ v) (n : Nat) : v % 2 ^ n = v ↔ v / 2 ^ n = 0 := by
  have hP : (0:Int) < 2 ^ n := Int.pow_pos (by decide)
  have e1 := Int.mul_ediv_add_emod v (2 ^ n)
  constructor
  · intro h
    have : 2 ^ n * (v / 2 ^ n) = 0 := by omega
    rcases Int.mul_eq_zero.1 this with h | h
    · omega
    · exact h
  · intro h; rw [h] at e1; omega
theorem bit_law {m : Mk} (h : Good m) (a n : Int) : Good (bitM m a n) ∧ (AllH (bitM m a n) ↔ AllH m ∧ valM m.vals a / 2 ^ bitN n = 0) := by
  have i1 := isM_in h.ne a
  have h0 := h.ne
  have hN := bitN_le n
  obtain ⟨X, l1, g1, g2, g3⟩ : ∃ X, Law m (bitE m a n).1 X ∧ lin (bitE m a n).1.vals (bitE m a n).2.2 = gV m.vals (isM m.vals a) % 2 ^ (0 + bitN n) ∧ blw (bitE m a n).1.vals.length (bitE m a n).2.2 ∧ (bitE m a n).2.2.length = 0 + bitN n :=
    bitS_law (isM m.vals a) (bitN n) 0 m [] [] h i1.1 i1.2 (by simp only [lin, Int.pow_zero, Int.emod_one]) blw_nil rfl (by omega)
  rw [Nat.zero_add] at g1 g3
  have n1 := l1.len
  refine ⟨l1.good.row g2 (blw_1 (by omega)) (blw_1 (by rw [n1]; have := i1.2; show isM m.vals a < _; omega)) (by omega) (by simp) (by simp), ?_⟩
  unfold bitM
  rw [AllH.row, l1.all, g1, lin_1, lin_1, l1.good.g0, l1.g i1.2, ← valM_g h0, Int.mul_one]
  have hv := valM_lt h a
  rw [← div_zero hv.1]
  have hP : (0:Int) < 2 ^ bitN n := Int.pow_pos (by decide)
  have r0 := Int.emod_nonneg (valM m.vals a) (show (2:Int) ^ bitN n ≠ 0 by omega)
  have r1 : valM m.vals a % 2 ^ bitN n ≤ valM m.vals a := by
    have e1 := Int.mul_ediv_add_emod (valM m.vals a) (2 ^ bitN n)
    have e2 := Int.mul_nonneg (Int.le_of_lt hP) (Int.ediv_nonneg hv.1 (Int.le_of_lt hP))
    omega
  rw [Int.emod_eq_of_lt r0 (by omega), Int.emod_eq_of_lt hv.1 hv.2]
theorem Mok.pub {k : Nat} {m : Mk} (h : Mok (k + 1) m) (x : Int) : Mok k (pubM m x) := by
  unfold pubM
  split
  · exact Mok.mono h (by omega)
  · exact Mok.fresh (m := ⟨m.v, m.p + 1, m.rows, m.vals⟩) h x
/-! ### the shape -/
structure Shp (m m' : Mk) : Prop where
  v : m.v = m'.v
  p : m.p = m'.p
  rows : m.rows = m'.rows
  len : m.vals.length = m'.vals.length
theorem Shp.is {m m' : Mk} (h : Shp m m') (a : Int) : isM m.vals a = isM m'.vals a := by unfold isM; rw [h.len]
theorem Shp.fresh {m m' : Mk} (h : Shp m m') (x x' : Int) : Shp (freshM m x) (freshM m' x') := ⟨by simp [freshM, h.len], h.p, h.rows, by simp [freshM, h.len]⟩
theorem Shp.row {m m' : Mk} (h : Shp m m') (a b c : List Tm) : Shp (rowM m a b c) (rowM m' a b c) := ⟨h.v, h.p, by simp [rowM, h.rows], h.len⟩
theorem Shp.prod {m m' : Mk} (h : Shp m m') (a b : List Tm) : Shp (prodM m a b) (prodM m' a b) := by
  unfold prodM; rw [h.len]; exact (h.fresh _ _).row _ _ _
theorem Shp.own {m m' : Mk} (h : Shp m m') (L : List Tm) : ownT m.vals L = ownT m'.vals L := by
  unfold ownT; exact List.map_congr_left fun t _ => by rw [h.is]
theorem Shp.lin {m m' : Mk} (h : Shp m m') (L : List Tm) : Shp (linM m L) (linM m' L) := by
  unfold linM; rw [h.len, h.own]; exact (h.fresh _ _).row _ _ _
theorem Shp.pub {m m' : Mk} (h : Shp m m') (x x' : Int) : Shp (pubM m x) (pubM m' x') := by
  unfold pubM; rw [h.v, h.p]
  split
  · exact h
  · exact Shp.fresh (m := ⟨m'.v, m'.p + 1, m.rows, m.vals⟩) (m' := ⟨m'.v, m'.p + 1, m'.rows, m'.vals⟩) ⟨rfl, rfl, h.rows, h.len⟩ x x'
theorem Shp.bitS (a : Int) : ∀ (n j : Nat) {m m' : Mk} (o : List Int) (s : List Tm), Shp m m' → Shp (bitS a n j m o s).1 (bitS a n j m' o s).1 ∧ (bitS a n j m o s).2 = (bitS a n j m' o s).2
  | 0, _, _, _, _, _, h => ⟨h, rfl⟩
  | n + 1, j, m, m', o, s, h => by
    simp only [M.bitS]
    rw [h.len]
    exact Shp.bitS a n (j + 1) _ _ ((h.fresh _ _).row _ _ _)
theorem Shp.bit {m m' : Mk} (h : Shp m m') (a n : Int) : Shp (bitM m a n) (bitM m' a n) := by
  have hb := Shp.bitS (isM m'.vals a) (bitN n) 0 [] [] h
  unfold bitM bitE
  rw [h.is, hb.2]
  exact hb.1.row _ _ _
theorem Shp.cho {m m' : Mk} (h : Shp m m') (c a b : Int) : Shp (choM m c a b) (choM m' c a b) := by
  unfold choM isMk; rw [h.is, h.is, h.is, h.len]; exact (h.fresh _ _).row _ _ _
theorem Shp.twoS (a : Int) : ∀ (n j : Nat) {m m' : Mk} (x : Int), Shp m m' → Shp (twoS a n j m x).1 (twoS a n j m' x).1 ∧ (twoS a n j m x).2 = (twoS a n j m' x).2
  | 0, _, _, _, _, h => ⟨h, rfl⟩
  | n + 1, j, m, m', x, h => by
    simp only [M.twoS]
    have h1 := h.prod (twoL a x j) (twoL a x j)
    rw [h1.len, h.len]
    exact Shp.twoS a n (j + 1) _ (h1.prod _ _)
theorem Shp.two {m m' : Mk} (h : Shp m m') (a b : Int) : Shp (twoM m a b) (twoM m' a b) ∧ twoR m a b = twoR m' a b := by
  have hb := Shp.twoS (isM m'.vals a) 3 0 (isM m'.vals b) h
  unfold twoM twoR twoE
  rw [h.is, h.is, hb.2, hb.1.len]
  exact ⟨hb.1.lin _, rfl⟩
theorem Shp.manS : ∀ (V : List Int) {m m' : Mk} (x : Int), Shp m m' → Shp (manS V m x).1 (manS V m' x).1 ∧ (manS V m x).2 = (manS V m' x).2
  | [], _, _, _, h => ⟨h, rfl⟩
  | v :: V, m, m', x, h => by
    simp only [M.manS]
    have h1 := h.two x v
    rw [h1.2]
    exact Shp.manS V _ h1.1
theorem Shp.call {m m' : Mk} (h : Shp m m') {d d' : Dd} (e1 : d.what = d'.what) (e2 : d.a = d'.a) (e3 : d.b = d'.b) (e4 : d.n = d'.n) (e5 : d.L = d'.L) (e6 : d.V = d'.V) : Shp (callMk m d) (callMk m' d') := by
  unfold callMk
  rw [e1, e2, e3, e4, e5, e6]
  split
  · exact h.pub _ _
  split
  · exact h.fresh _ _
  split
  · exact h.lin _
  split
  · unfold mulM isMk; rw [h.is, h.is]; exact h.prod _ _
  split
  · exact h.bit _ _
  split
  · exact h.cho _ _ _
  split
  · unfold sameM isMk; rw [h.is, h.is]; exact h.row _ _ _
  split
  · exact (h.two _ _).1
  · unfold manE; rw [h.len]; exact (Shp.manS _ _ (h.lin _)).1
end Go.Proofs.YtngphcdhdllnnaaGreat.E.M
end
section
/- Whether a maker's values hold for its system: the plain law. -/
set_option linter.unusedVariables false
set_option linter.unusedSimpArgs false
set_option maxRecDepth 10000
open Go Go.Proofs.YtngphcdhdllnnaaGreat.E Go.Proofs
namespace Go.Proofs.YtngphcdhdllnnaaGreat.E.M
theorem rowsH_iff (V : List Int) : ∀ (L : List Rw) (k : Nat), (rowsH V k L = nil_ ↔ ∀ r ∈ L, rowH V r) ∧ (rowsH V k L = nil_ ∨ ∃ j : Nat, rowsH V k L = spot j 8)
  | [], k => ⟨by simp [rowsH], .inl rfl⟩
  | r :: l, k => by
    have ih := rowsH_iff V l (k + 1)
    simp only [rowsH]
    split
    · rename_i h
      refine ⟨ih.1.trans ⟨fun g s hs => ?_, fun g s hs => g s (List.mem_cons_of_mem _ hs)⟩, ih.2⟩
      rcases List.mem_cons.1 hs with rfl | hs
      · exact h
      · exact g s hs
    · rename_i h
      refine ⟨⟨fun g => by simp at g, fun g => absurd (g r (by simp)) h⟩, .inr ⟨k, rfl⟩⟩
theorem rowsF_all {n : Int} : ∀ {L : List Rw}, (∀ r ∈ L, rowF n r = true) → rowsF n L = true
  | [], _ => rfl
  | r :: l, h => by
    simp only [rowsF]
    rw [if_pos (h r (by simp))]
    exact rowsF_all fun s hs => h s (List.mem_cons_of_mem _ hs)
abbrev sysM (m : Mk) : Rk := ⟨m.v, m.p, m.rows⟩
theorem Good.chk {m : Mk} (h : Good m) (l1 : m.vals.length ≤ 4096) (l2 : m.rows.length ≤ 4096) : chkF (sysM m) = true := by
  have h0 := h.ne
  have hv := h.v
  have p0 := h.p0
  have p1 := h.p1
  unfold chkF
  rw [if_neg (by simp [badF]; omega)]
  refine rowsF_all fun r hr => ?_
  obtain ⟨a, b, c, rfl, ha, hb, hc, _⟩ := h.rows r hr
  simp only [rowF, hv, snd_sum ha, snd_sum hb, snd_sum hc, Bool.and_self]
/-- values that are good, whoever made them -/
theorem holds_iff {m : Mk} (h : Good m) (l1 : m.vals.length ≤ 4096) (l2 : m.rows.length ≤ 4096) {V : List Int} (hl : V.length = m.vals.length) (hh : V.head? = some 1) (hV : ∀ v ∈ V, v < 288230376287764481) :
    (holdsF (sysM m) V = nil_ ↔ ∀ r ∈ m.rows, rowH V r) ∧ (holdsF (sysM m) V = nil_ ∨ ∃ j : Nat, holdsF (sysM m) V = spot j 8) := by
  have hg : greatF V = false := by
    unfold greatF
    rw [List.any_eq_false]
    intro v hv
    have := hV v hv
    simp; omega
  have e : holdsF (sysM m) V = rowsH V 0 m.rows := by
    unfold holdsF
    rw [if_pos (h.chk l1 l2), if_neg (by rw [hg, hl, hh, show (sysM m).v = m.vals.length from h.v]; simp)]
  rw [e]
  exact rowsH_iff V m.rows 0
theorem holds_good {m : Mk} (h : Good m) (l1 : m.vals.length ≤ 4096) (l2 : m.rows.length ≤ 4096) : (holdsF (sysM m) m.vals = nil_ ↔ AllH m) ∧ (holdsF (sysM m) m.vals = nil_ ∨ ∃ j : Nat, holdsF (sysM m) m.vals = spot j 8) :=
  holds_iff h l1 l2 rfl h.one fun v hv => (h.lt v hv).2
theorem Good.rok {m : Mk} (h : Good m) : M.rok m.rows := fun r hr => by
  obtain ⟨a, b, c, rfl, _, _, _, la, lb, lc⟩ := h.rows r hr
  exact ⟨⟨Nat.lt_of_le_of_lt (sumT_len a) la, sumT_w a⟩, ⟨Nat.lt_of_le_of_lt (sumT_len b) lb, sumT_w b⟩, ⟨Nat.lt_of_le_of_lt (sumT_len c) lc, sumT_w c⟩⟩
theorem Good.len {m : Mk} (h : Good m) (l2 : m.rows.length ≤ 4096) : Len (sysM m) := by
  refine ⟨by show m.rows.length < _; omega, fun r hr => ?_⟩
  have := h.rok r hr
  exact ⟨by have := this.1.1; omega, by have := this.2.1.1; omega, by have := this.2.2.1; omega⟩
theorem Good.wR {m : Mk} (h : Good m) : M.wR (sysM m) := fun r hr => by
  have := h.rok r hr
  exact ⟨this.1.2, this.2.1.2, this.2.2.2⟩
theorem Good.wV {m : Mk} (h : Good m) : M.wV m.vals := fun v hv => ⟨(h.lt v hv).1, by have := (h.lt v hv).2; omega⟩
end Go.Proofs.YtngphcdhdllnnaaGreat.E.M
end
section
/- Hashes that a maker makes: the plain law. -/
set_option linter.unusedVariables false
set_option linter.unusedSimpArgs false
set_option maxRecDepth 10000
open Go Go.Proofs.YtngphcdhdllnnaaGreat.E Go.Proofs
namespace Go.Proofs.YtngphcdhdllnnaaGreat.E.M
def frS : List Int → Mk → Mk
  | [], m => m
  | v :: V, m => frS V (freshM m v)
def ixS : List Int → Nat → List Int
  | [], _ => []
  | _ :: V, n => (n : Int) :: ixS V (n + 1)
theorem ixS_len : ∀ (V : List Int) (n : Nat), (ixS V n).length = V.length
  | [], _ => rfl
  | _ :: V, n => by simp [ixS, ixS_len V]
theorem valM_at2 {m : Mk} (h : Good m) {v : Int} (v0 : 0 ≤ v) (v1 : v < m.vals.length) : valM m.vals v = gV m.vals v := by rw [valM_g h.ne, isM_of v0 v1]
theorem man_val : ∀ (V : List Int) (m : Mk) (x : Int), Good m → 0 ≤ x → x < m.vals.length → (∀ v ∈ V, 0 ≤ v ∧ v < m.vals.length) → gV (manS V m x).1.vals (manS V m x).2 = (V.map (gV m.vals)).foldl twoH (gV m.vals x)
  | [], m, x, _, _, _, _ => rfl
  | v :: V, m, x, h, x0, x1, hV => by
    obtain ⟨X, l1, y0, y1, hy⟩ := two_law h x v
    have n1 := l1.len
    have hv := hV v (by simp)
    have ih := man_val V _ _ l1.good y0 y1 (fun w hw => by have := hV w (List.mem_cons_of_mem _ hw); omega)
    show gV (manS V _ _).1.vals (manS V _ _).2 = _
    rw [ih, hy, valM_at2 h x0 x1, valM_at2 h hv.1 hv.2]
    simp only [List.map_cons, List.foldl_cons]
    congr 1
    refine List.map_congr_left fun w hw => ?_
    exact l1.g (hV w (List.mem_cons_of_mem _ hw)).2
theorem frS_law : ∀ (V : List Int) {m : Mk}, Good m → Law m (frS V m) (V.map fun v => v % 288230376287764481)
  | [], m, h => Law.refl h
  | v :: V, m, h => by
    have l1 : Law m (freshM m v) [v % 288230376287764481] := ⟨h.fresh v, rfl, AllH.fresh h v⟩
    exact l1.trans (frS_law V (h.fresh v))
theorem ixS_in : ∀ (V : List Int) (n : Nat), ∀ v ∈ ixS V n, (n : Int) ≤ v ∧ v < (n : Int) + V.length
  | [], _, v, hv => by cases hv
  | w :: V, n, v, hv => by
    simp only [ixS] at hv
    rcases List.mem_cons.1 hv with rfl | hv
    · simp only [List.length_cons]; omega
    · have := ixS_in V (n + 1) v hv
      simp only [List.length_cons]; omega
theorem ixS_val : ∀ (V W : List Int), (ixS V W.length).map (gV (W ++ V.map fun v => v % 288230376287764481)) = V.map fun v => v % 288230376287764481
  | [], _ => rfl
  | v :: V, W => by
    have e : W ++ (v :: V).map (fun v => v % 288230376287764481) = (W ++ [v % 288230376287764481]) ++ V.map (fun v => v % 288230376287764481) := by simp
    have ih := ixS_val V (W ++ [v % 288230376287764481])
    rw [List.length_append, List.length_singleton] at ih
    rw [e]
    simp only [ixS, List.map_cons]
    rw [ih, gV_app (by simp; omega), gV_last]
abbrev h2 (a b : Int) : Mk := freshM (freshM mk0 a) b
abbrev h3 (a b : Int) : Mk := twoM (h2 a b) 1 2
abbrev h4 (a b : Int) (V : List Int) : Mk := frS V (h3 a b)
abbrev h5 (a b : Int) (V : List Int) : Mk × Int := manE (h4 a b V) (ixS V (h3 a b).vals.length)
end Go.Proofs.YtngphcdhdllnnaaGreat.E.M
end
