/- GadgetHash over E. -/
import Derived.Test.YtiikiamdbelbjaaGpq
import Derived.Test.YtiikiamdbelbjaaGai
import Derived.Test.YtiikiamdbelbjaaProg
import Derived.KernelRfl
set_option linter.unusedVariables false
set_option linter.unusedSimpArgs false
set_option maxRecDepth 10000
open Go Go.Proofs.Ytiikiamdbelbjaa.E Go.Proofs
namespace Go.Proofs.Ytiikiamdbelbjaa.E.M
theorem binPtrNe {P : Program} (w : World) (t e : TypeId) (a : Addr) (h : P.underlying t = some (.pointer e)) :
    (binOp .neq t (.pointer (some a)) (.pointer none)).run P w = .ok (.bool true) w := by
  have h1 : ∀ d, (Op.equalIn (d + 1) t (.pointer (some a)) (.pointer none)).run P w = .ok false w := fun d => by simp [Op.equalIn, run_underlying h]
  simp only [binOp]
  simp [Op.equal, Op.maxDepth, h1 9999]
def ptrNeL (P : Program) (st : St) (ops : List Oper) (o : Oper) : Bool :=
  match dOk st.n o.dst, gOkL ops st o.guard, o.op with
  | true, some true, .binOp .neq t x (.const (.pointer none)) _ => match P.underlying t, st.eval x with
    | some (.pointer _), some c => isPtr c
    | _, _ => false
  | _, _, _ => false
theorem AOL.ptrNe {P : Program} {ops : Array Oper} {o : Oper} {os : List Oper} {K : St → Prop} {st st' : St}
    (hc : ptrNeL P st ops.toList o = true) (hst : st.put o.dst (.val (.bool true)) = st' := by simp only [St.put, ins, del, reduceIte, Nat.reduceLT, Nat.reduceEqDiff]; exact rfl)
    (h : AOL P ops os K st') : AOL P ops (o :: os) K st := by
  subst hst
  intro i hi
  obtain ⟨ho, hi'⟩ := drop_cons hi
  rw [List.length_cons, List.range'_succ]
  unfold ptrNeL at hc
  split at hc
  · rename_i t x _ hd hg hop
    rw [gOkL_eq] at hg
    split at hc
    · rename_i e c hu hx
      intro ρ F a w Q hR hQ
      have hw := gOk_rel hR hg
      have hv := hR.get hx
      have key : ∃ p, a.eval x = .pointer (some p) := by
        cases c <;> simp only [isPtr, Bool.false_eq_true] at hc
        · simp only [VR] at hv
          obtain ⟨r, m, _, e1⟩ := hv
          exact ⟨_, e1⟩
        · simp only [VR] at hv
          obtain ⟨p, vs, e1, _⟩ := hv
          exact ⟨_, e1⟩
      obtain ⟨p, e1⟩ := key
      simp only [wpOps, ho, hw, if_true]
      refine .inl ?_
      have hrun : (execOp a.eval o).run P w = .ok (.value (.bool true)) w := by
        have h1 : ∀ oy, (eqGuard .neq t x oy (.pointer (some p)) (.pointer none)).run P w = .ok () w := fun oy => by simp [eqGuard]
        have h2 := binPtrNe w t e p hu
        have h0 : a.eval (.const (.pointer none)) = .pointer none := rfl
        simp only [execOp, hop, e1, h0, Sem.run_bind, h1, h2, Result.andThen, Sem.run_pure]
      simp only [Oper.wp, hrun, Oper.upon]
      exact h (i + 1) hi' ρ F _ w Q (hR.put (dOk_lt hd) (by simp only [VR])) fun st' ρ'' F'' a' w'' h1 h2 h3 => hQ st' ρ'' F'' a' w'' h1 h2 h3
    · cases hc
  · cases hc
set_option maxHeartbeats 8000000 in
theorem obollaw12_GadgetHash_c {a b : Int} {V : List Int} (ha : w64 a) (hb : w64 b) (hV : wV V) (lV : V.length < 9223372036854775808) : Fn Try.prog 4 [u a, u b, ul V] [] (fun r h_ => r = bo true) := by
  refine Fn.enter Try.func4 Try.ntmps4 rfl (h := ?_)
  have tf := tfm
  have ot_ : (false || true) = true := rfl
  have tfr := tfr
  have cU := obollaw12_up_c
  repeat refine AW.seq ?_
  refine AW.reg ?_
  iterate 1 refine AOL.s1 (h := ?_)
  refine AOL.nil ?_
  refine AW.kq [0, 1, 2] (h := ?_)
  repeat refine AW.seq ?_
  refine AW.reg ?_
  refine AOL.callD rfl (cU) (by kernel_rfl) rfl rfl (h := ?_)
  iterate 1 refine AOL.s1 (h := ?_)
  refine AOL.nil ?_
  refine AW.kq [0, 1, 2, 7] (h := ?_)
  repeat refine AW.seq ?_
  refine AW.reg ?_
  refine AOL.callNew (b := 1004) rfl (hst := by simp only [St.drops, St.drop, mapT, mapH, kill, kills, del, St.put, ins, reduceIte, Nat.reduceAdd, Nat.reduceLT, Nat.reduceEqDiff, Bool.false_eq_true]; exact rfl) ?_
  iterate 1 refine AOL.s1 (h := ?_)
  refine AOL.nil ?_
  refine AW.kq [0, 1, 2, 7, 8] (h := ?_)
  repeat refine AW.seq ?_
  refine AW.reg ?_
  iterate 1 refine AOL.s1 (h := ?_)
  refine AOL.ptrNil rfl (h := ?_)
  iterate 1 refine AOL.s1 (h := ?_)
  refine AOL.kq [0, 1, 2, 7, 8, 21] (h := ?_)
  iterate 4 refine AOL.s1 (h := ?_)
  refine AOL.nil ?_
  refine AW.kq [0, 1, 2, 7, 8, 25] (h := ?_)
  repeat refine AW.seq ?_
  refine AW.cond rfl (fun c_ => ?_) (fun c_ => ?_)
  · skip
    repeat refine AW.seq ?_
    refine AW.reg ?_
    iterate 2 refine AOL.s1 (h := ?_)
    refine AOL.kq [8, 27] (h := ?_)
    iterate 1 refine AOL.s1 (h := ?_)
    refine AOL.ptrNe rfl (h := ?_)
    iterate 1 refine AOL.s1 (h := ?_)
    iterate 1 refine AOL.s1 (h := ?_)
    refine AOL.nil ?_
    refine AW.kq [6] (h := ?_)
    repeat refine AW.seq ?_
    refine AW.ret ?_
    refine ⟨_, [], rfl, HOk.nil _, ?_⟩
    rfl
  have lV5 : V.length ≤ 5 := by simp at c_; omega
  have o1 : Mok 999998 (freshM mk0 a) := Mok.fresh mok0 a
  have o2 : Mok 999997 (h2 a b) := Mok.fresh o1 b
  have o3 : Mok 999983 (h3 a b) := twoM_ok o2 1 2
  have o4 : Mok 999978 (h4 a b V) := frS_ok V (Mok.mono o3 (by omega))
  have o5 : Mok 999906 (h5 a b V).1 := manE_ok (Mok.mono o4 (by rw [ixS_len]; omega))
  obtain ⟨g5, a5, v5, w5⟩ := hash_law a b V
  have lv : (h5 a b V).1.vals.length ≤ 4096 := by have := o5.1; omega
  have lr : (h5 a b V).1.rows.length ≤ 4096 := by have := o5.2.1; omega
  have cH := rank_Holds_c (s := sysM (h5 a b V).1) (V := (h5 a b V).1.vals) (g5.len lr) g5.wR g5.wV (by omega)
  rw [(holds_good g5 lv lr).1.2 a5] at cH
  have c1 := gadget_Maker_Private_c (m := mk0) (x := a) (Mok.mono mok0 (by decide)) ha
  have c2 := gadget_Maker_Private_c (m := freshM mk0 a) (x := b) (Mok.mono o1 (by decide)) hb
  have c3 := gadget_Maker_Two_c (m := h2 a b) (a := 1) (b := 2) (Mok.mono o2 (by decide))
  have c5 := gadget_Maker_Many_c (m := h4 a b V) (V := ixS V (h3 a b).vals.length) (Mok.mono o4 (by rw [ixS_len]; omega))
  have d1 := obolref10_Two_c ha hb
  have d2 := obolref10_Many_c hV (by omega)
  have e1 : (mk0.vals.length : Int) = 1 := rfl
  have e2 : ((freshM mk0 a).vals.length : Int) = 2 := rfl
  refine AW.skip ?_
  repeat refine AW.seq ?_
  refine AW.reg ?_
  iterate 2 refine AOL.s1 (h := ?_)
  refine AOL.callM (l := 1004) (b := 1004) (c1) rfl (by kernel_rfl) rfl rfl rfl rfl rfl (hst := by simp only [St.drops, St.drop, mapT, mapH, kill, kills, del, St.put, ins, reduceIte, Nat.reduceAdd, Nat.reduceLT, Nat.reduceEqDiff, Bool.false_eq_true]; exact rfl) ?_
  iterate 1 refine AOL.s1 (h := ?_)
  refine AOL.nil ?_
  refine AW.kq [0, 1, 2, 7, 8, 9] (h := ?_)
  repeat refine AW.seq ?_
  refine AW.reg ?_
  iterate 2 refine AOL.s1 (h := ?_)
  refine AOL.callM (l := 1004) (b := 1004) (c2) rfl (by kernel_rfl) rfl rfl rfl rfl rfl (hst := by simp only [St.drops, St.drop, mapT, mapH, kill, kills, del, St.put, ins, reduceIte, Nat.reduceAdd, Nat.reduceLT, Nat.reduceEqDiff, Bool.false_eq_true]; exact rfl) ?_
  iterate 1 refine AOL.s1 (h := ?_)
  refine AOL.nil ?_
  refine AW.kq [0, 1, 2, 7, 8, 9, 10] (h := ?_)
  repeat refine AW.seq ?_
  refine AW.reg ?_
  iterate 3 refine AOL.s1 (h := ?_)
  refine AOL.callM (l := 1004) (b := 1004) (c3) rfl (by kernel_rfl) rfl rfl rfl rfl rfl (hst := by simp only [St.drops, St.drop, mapT, mapH, kill, kills, del, St.put, ins, reduceIte, Nat.reduceAdd, Nat.reduceLT, Nat.reduceEqDiff, Bool.false_eq_true]; exact rfl) ?_
  iterate 1 refine AOL.s1 (h := ?_)
  refine AOL.nil ?_
  refine AW.kq [0, 1, 2, 7, 8, 11] (h := ?_)
  repeat refine AW.seq ?_
  refine AW.reg ?_
  iterate 1 refine AOL.s1 (h := ?_)
  refine AOL.nil ?_
  refine AW.kq [0, 1, 2, 7, 8, 11, 12] (h := ?_)
  repeat refine AW.seq ?_
  refine AW.reg ?_
  iterate 1 refine AOL.s1 (h := ?_)
  refine AOL.nil ?_
  refine AW.kq [0, 1, 2, 7, 8, 11, 12, 13] (h := ?_)
  repeat refine AW.seq ?_
  refine AW.block ?_
  repeat refine AW.seq ?_
  refine AW.born 12 9001 3 1 (.inl rfl) (h := ?_)
  refine AW.loopK [0, 1, 2, 7, 8, 11, 12, 13] (fun n s => ∃ (k : Nat) (q : Mk) (o r : List Int), s = ⟨88, [(0, u a), (1, u b), (2, ul V), (7, bo true), (8, .ptr 1004 0), (11, i (twoR (h2 a b) 1 2)), (12, .ref 9001 0 o.length 1), (13, i k)], [(1004, mkB q 1005 1006), (1005, rwB q.rows), (1006, vlB q.vals), (9001, ⟨3, false, fm i1 o⟩)]⟩ ∧ V.drop k = r ∧ k ≤ V.length ∧ n = r.length ∧ Mok (999970 + r.length) q ∧ o.length = k ∧ id (frS r q = h4 a b V) ∧ id (o ++ ixS r q.vals.length = ixS V (h3 a b).vals.length)) (V.length) ?_ ?_
  · exact ⟨0, h3 a b, [], V, rfl, rfl, Nat.zero_le _, rfl, Mok.mono o3 (by omega), rfl, rfl, rfl⟩
  rintro n s ⟨k, q, o, r, rfl, hr, hkl, rfl, hq, ho, hf, hi⟩
  repeat refine AW.seq ?_
  refine AW.reg ?_
  iterate 4 refine AOL.s1 (h := ?_)
  refine AOL.nil ?_
  refine AW.kq [0, 1, 2, 7, 8, 11, 12, 13, 44] (h := ?_)
  repeat refine AW.seq ?_
  refine AW.cond rfl (fun c_ => ?_) (fun c_ => ?_)
  · cases r with
    | nil => have := dnilq hr hkl; simp at c_; omega
    | cons t r =>
    obtain ⟨hlt, hr', ht_⟩ := dconsq hr
    have hd : (fm u1 V).drop k = u t :: fm u1 r := by
      have := fm_drop u1_len hr
      rwa [Nat.mul_one] at this
    have k0 : (0:Int) ≤ k := by omega
    have k1 : (k:Int) < V.length := by omega
    have hw := incq hlt (show V.length < 1000000000 by omega)
    have cF := gadget_Maker_Private_c (m := q) (x := t) (Mok.mono hq (by simp only [List.length_cons]; omega)) (hV t (List.mem_of_getElem? ht_))
    have lo : (fm i1 o).length = k := by rw [fm_len i1_len, Nat.mul_one, ho]
    have p1 : (k + 1) * 8 ≤ 140737488355328 := by omega
    have p2 : k + 1 ≤ 4611686018427387904 := by omega
    have p3 : k ≤ 4611686018427387903 := by omega
    have hf' : id (frS r (freshM q t) = h4 a b V) := hf
    have hi' : id (o ++ [(q.vals.length : Int)] ++ ixS r (freshM q t).vals.length = ixS V (h3 a b).vals.length) := by
      rw [← show _ = _ from hi, fresh_len]; show _ = _; simp [ixS]
    clear hr ht_ hf hi
    refine AW.skip ?_
    repeat refine AW.seq ?_
    refine AW.block ?_
    repeat refine AW.seq ?_
    refine AW.reg ?_
    iterate 6 refine AOL.s1 (h := ?_)
    refine AOL.callM (l := 1004) (b := 1004) (cF) rfl (by kernel_rfl) rfl rfl rfl rfl rfl (hst := by simp only [St.drops, St.drop, mapT, mapH, kill, kills, del, St.put, ins, reduceIte, Nat.reduceAdd, Nat.reduceLT, Nat.reduceEqDiff, Bool.false_eq_true]; exact rfl) ?_
    iterate 3 refine AOL.s1 (h := ?_)
    refine AOL.nil ?_
    repeat refine AW.seq ?_
    refine AW.let 1864 (h := ?_)
    refine AW.reg ?_
    iterate 3 refine AOL.s1 (h := ?_)
    refine AOL.nil ?_
    refine ⟨r.length, by simp, k + 1, freshM q t, o ++ [(q.vals.length : Int)], r, ?_, hr', hlt, rfl, Mok.fresh (Mok.mono hq (by simp only [List.length_cons]; omega)) t, by rw [List.length_append, ho]; rfl, hf', hi'⟩
    rw [fmi_snoc, List.length_append, ho]; rfl
  · have : r = [] := by
      cases r with
      | nil => rfl
      | cons t r => have := (dconsq hr).1; simp at c_; omega
    subst this
    have hq4 : q = h4 a b V := hf
    have ho4 : o = ixS V (h3 a b).vals.length := by have := show _ = _ from hi; simpa [ixS] using this
    have hfo : AV.sl k (sub 0 (k * 1) (fm i1 o)) = il o := by rw [← ho, sub_all (by rw [fm_len i1_len]; exact Nat.le_refl _)]
    have hfz : AV.sl (h5 a b V).1.vals.length (sub 0 ((h5 a b V).1.vals.length * 1) (fm u1 (h5 a b V).1.vals)) = ul (h5 a b V).1.vals := by rw [sub_all (by rw [fm_len u1_len]; exact Nat.le_refl _)]
    refine AW.fz 9001 rfl (fun h => by cases h) (h := ?_)
    rw [hfo]
    subst hq4 ho4
    clear hfo hf hi ho
    repeat refine AW.seq ?_
    refine AW.exit ?_
    repeat (first | refine Kseq.ex ?_ | refine Kloop.ex ?_ | refine Kblock.miss (by decide) ?_)
    refine Kblock.hit ?_
    refine AW.kq [0, 1, 2, 7, 8, 11, 12] (h := ?_)
    repeat refine AW.seq ?_
    refine AW.reg ?_
    iterate 2 refine AOL.s1 (h := ?_)
    refine AOL.callM (l := 1004) (b := 1004) (c5) rfl (by kernel_rfl) rfl rfl rfl rfl rfl (hst := by simp only [St.drops, St.drop, mapT, mapH, kill, kills, del, St.put, ins, reduceIte, Nat.reduceAdd, Nat.reduceLT, Nat.reduceEqDiff, Bool.false_eq_true]; exact rfl) ?_
    iterate 1 refine AOL.s1 (h := ?_)
    refine AOL.nil ?_
    refine AW.kq [0, 1, 2, 7, 8, 11, 14] (h := ?_)
    repeat refine AW.seq ?_
    refine AW.reg ?_
    iterate 1 refine AOL.s1 (h := ?_)
    refine AOL.callDone (l := 1004) (b := 1004) (⟨Mok.mono o5 (by decide), g5.rok⟩) rfl rfl rfl rfl (hst := by simp only [St.drops, St.drop, mapT, mapH, kill, kills, del, St.put, ins, reduceIte, Nat.reduceAdd, Nat.reduceLT, Nat.reduceEqDiff, Bool.false_eq_true]; exact rfl) ?_
    iterate 6 refine AOL.s1 (h := ?_)
    refine AOL.nil ?_
    refine AW.kq [0, 1, 2, 7, 8, 11, 14, 15, 16] (h := ?_)
    refine AW.fz 1007 rfl (fun h => by cases h) (h := ?_)
    rw [hfz]
    clear hfz
    have wv5 := g5.wV
    have ne5 := g5.ne
    repeat refine AW.seq ?_
    refine AW.reg ?_
    iterate 2 refine AOL.s1 (h := ?_)
    refine AOL.kq [0, 1, 2, 8, 11, 14, 15, 16, 65] (h := ?_)
    iterate 2 refine AOL.s1 (h := ?_)
    refine AOL.callF rfl (valF_c wv5 ne5 rfl rfl rfl) (by kernel_rfl) (h := ?_)
    iterate 2 refine AOL.s1 (h := ?_)
    refine AOL.callD rfl (d1) (by kernel_rfl) rfl rfl (h := ?_)
    iterate 2 refine AOL.s1 (h := ?_)
    iterate 1 refine AOL.s1 (h := ?_)
    refine AOL.kq [2, 8, 14, 15, 16, 74] (h := ?_)
    iterate 2 refine AOL.s1 (h := ?_)
    refine AOL.callF rfl (valF_c wv5 ne5 rfl rfl rfl) (by kernel_rfl) (h := ?_)
    iterate 1 refine AOL.s1 (h := ?_)
    refine AOL.callD rfl (d2) (by kernel_rfl) rfl rfl (h := ?_)
    iterate 2 refine AOL.s1 (h := ?_)
    iterate 1 refine AOL.s1 (h := ?_)
    refine AOL.kq [15, 16, 82] (h := ?_)
    iterate 2 refine AOL.s1 (h := ?_)
    refine AOL.callD rfl (cH) (by kernel_rfl) rfl rfl (h := ?_)
    iterate 2 refine AOL.s1 (h := ?_)
    iterate 1 refine AOL.s1 (h := ?_)
    refine AOL.nil ?_
    refine AW.kq [6] (h := ?_)
    repeat refine AW.seq ?_
    refine AW.ret ?_
    refine ⟨_, [], rfl, HOk.nil _, ?_⟩
    rfl
end Go.Proofs.Ytiikiamdbelbjaa.E.M

