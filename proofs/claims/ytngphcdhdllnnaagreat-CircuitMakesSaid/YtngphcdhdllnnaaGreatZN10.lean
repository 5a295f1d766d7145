/- Texts joined: ZMCmc, ZMZla, ZMCfi, ZMCnu, ZMGah, ZMCmd. -/
import Derived.Test.YtngphcdhdllnnaaGreatZN9
import Derived.Test.YtngphcdhdllnnaaGreatProg
import Derived.KernelRfl
import Derived.Test.YtngphcdhdllnnaaGreatZN6
section
/- circuit: what it makes of an input: contracts over E. -/
set_option linter.unusedVariables false
set_option linter.unusedSimpArgs false
set_option maxRecDepth 10000
open Go Go.Proofs.YtngphcdhdllnnaaGreat.E Go.Proofs
namespace Go.Proofs.YtngphcdhdllnnaaGreat.E.M
/-- a path's variables -/
def pthS : List Int → Mk → List Int → Mk × List Int
  | [], m, l => (m, l)
  | x :: r, m, l => pthS r (freshM m x) (l ++ [(m.vals.length : Int)])
theorem pthS_ok {k : Nat} : ∀ (V : List Int) (m : Mk) (l : List Int), Mok (V.length + k) m → Mok k (pthS V m l).1
  | [], m, l, h => by simpa [pthS] using h
  | x :: r, m, l, h => pthS_ok r _ _ (Mok.fresh (Mok.mono h (by simp; omega)) x)
theorem pthS_len : ∀ (V : List Int) (m : Mk) (l : List Int), (pthS V m l).2.length = l.length + V.length
  | [], m, l => rfl
  | x :: r, m, l => by unfold pthS; rw [pthS_len r]; simp; omega
theorem bitS_len (a : Int) : ∀ (n j : Nat) (m : Mk) (l : List Int) (s : List Tm), (bitS a n j m l s).2.1.length = l.length + n
  | 0, _, _, _, _ => rfl
  | n + 1, j, m, l, s => by unfold bitS; rw [bitS_len a n]; simp; omega
/-- a path gone up -/
def clmS : List Int → List Int → Mk → Int → Mk × Int
  | b :: bs, p :: ps, m, h => clmS bs ps (twoM (choM (choM m b p h) b h p) m.vals.length (choM m b p h).vals.length) (twoR (choM (choM m b p h) b h p) m.vals.length (choM m b p h).vals.length)
  | _, _, m, h => (m, h)
theorem clmS_ok {k : Nat} : ∀ (B P : List Int) (m : Mk) (h : Int), Mok (18 * P.length + k) m → Mok k (clmS B P m h).1
  | [], [], m, h, o => by simpa [clmS] using o
  | [], p :: ps, m, h, o => by simp only [clmS]; exact Mok.mono o (by omega)
  | b :: bs, [], m, h, o => by simpa [clmS] using o
  | b :: bs, p :: ps, m, h, o => clmS_ok bs ps _ _ (twoM_ok (Mok.cho (Mok.cho (Mok.mono o (by simp; omega)) _ _ _) _ _ _) _ _)
theorem lin_nil {m : Mk} (hm : Mok 2 m) : Fn Tryz.prog 35 [.ptr 0 0, .val (.slice none 0 0)] [(0, mkB m 1 2), (1, rwB m.rows), (2, vlB m.vals)] (Tells (i m.vals.length) (mkOut (linM m []))) :=
  (gadget_Maker_Linear_c hm tok_0).wk (Wks.cons (Wk.refl _) (Wks.cons Wk.nilS Wks.nil))
def inpM (m : Mk) (k v o rh a : Int) (p : List Int) (d ro si en an : Int) : Mk :=
  let q1 := freshM m k
  let q2 := freshM q1 v
  let q3 := freshM q2 o
  let q4 := freshM q3 rh
  let q5 := freshM q4 a
  let q6 := (pthS p q5 []).1
  let P := (pthS p q5 []).2
  let q7 := linM q6 [⟨0, 1⟩]
  let q8 := twoM q7 m.vals.length q6.vals.length
  let hi := twoR q7 m.vals.length q6.vals.length
  let q9 := linM q8 [⟨0, 2⟩]
  let q10 := twoM q9 m.vals.length q8.vals.length
  let ow := twoR q9 m.vals.length q8.vals.length
  let q11 := sameM q10 ow q2.vals.length
  let q12 := (manE q11 [q1.vals.length, q2.vals.length, q3.vals.length]).1
  let h12 := (manE q11 [q1.vals.length, q2.vals.length, q3.vals.length]).2
  let q13 := bitM q12 q4.vals.length d
  let B := (bitE q12 q4.vals.length d).2.1
  let q14 := (clmS B P q13 h12).1
  let h14 := (clmS B P q13 h12).2
  let q15 := linM q14 (sumS 0 288230376287764480 [h14, ro])
  let q16 := mulM q15 q1.vals.length q14.vals.length
  let q17 := linM q16 []
  let q18 := sameM q17 q15.vals.length q16.vals.length
  let q19 := (manE q18 [hi, q3.vals.length, q4.vals.length]).1
  let h19 := (manE q18 [hi, q3.vals.length, q4.vals.length]).2
  let q20 := sameM q19 h19 en
  let q21 := twoM q20 hi si
  let an' := twoR q20 hi si
  sameM q21 an' an
theorem inpM_ok {j : Nat} {m : Mk} (h : Mok (900 + j) m) (k v o rh a : Int) {p : List Int} (hp : p.length ≤ 16) (d ro si en an : Int) : Mok j (inpM m k v o rh a p d ro si en an) := by
  unfold inpM
  have o1 := Mok.fresh (k := 899 + j) (Mok.mono h (by omega)) k
  have o2 := Mok.fresh (k := 898 + j) (Mok.mono o1 (by omega)) v
  have o3 := Mok.fresh (k := 897 + j) (Mok.mono o2 (by omega)) o
  have o4 := Mok.fresh (k := 896 + j) (Mok.mono o3 (by omega)) rh
  have o5 := Mok.fresh (k := 895 + j) (Mok.mono o4 (by omega)) a
  have o6 := pthS_ok (k := 879 + j) p _ [] (Mok.mono o5 (by omega))
  have l6 := pthS_len p (freshM (freshM (freshM (freshM (freshM m k) v) o) rh) a) []
  simp only [List.length_nil, Nat.zero_add] at l6
  have hP : (pthS p (freshM (freshM (freshM (freshM (freshM m k) v) o) rh) a) []).2.length ≤ 16 := by omega
  simp only
  generalize (pthS p (freshM (freshM (freshM (freshM (freshM m k) v) o) rh) a) []).2 = P at *
  generalize (pthS p (freshM (freshM (freshM (freshM (freshM m k) v) o) rh) a) []).1 = q6 at *
  have o7 := Mok.lin (k := 877 + j) (Mok.mono o6 (by omega)) [⟨0, 1⟩]
  have o8 := twoM_ok (k := 863 + j) (Mok.mono o7 (by omega)) m.vals.length q6.vals.length
  generalize linM q6 [⟨0, 1⟩] = q7 at *
  generalize twoR q7 m.vals.length q6.vals.length = hi at *
  generalize twoM q7 m.vals.length q6.vals.length = q8 at *
  have o9 := Mok.lin (k := 861 + j) (Mok.mono o8 (by omega)) [⟨0, 2⟩]
  generalize linM q8 [⟨0, 2⟩] = q9 at *
  have o10 := twoM_ok (k := 847 + j) (Mok.mono o9 (by omega)) m.vals.length q8.vals.length
  generalize twoR q9 m.vals.length q8.vals.length = ow at *
  generalize twoM q9 m.vals.length q8.vals.length = q10 at *
  have o11 : Mok (846 + j) (sameM q10 ow (freshM (freshM m k) v).vals.length) := Mok.row (Mok.mono o10 (by omega)) _ _ _
  generalize sameM q10 ow (freshM (freshM m k) v).vals.length = q11 at *
  have o12 := manE_ok (k := 802 + j) (V := [(freshM m k).vals.length, (freshM (freshM m k) v).vals.length, (freshM (freshM (freshM m k) v) o).vals.length]) (Mok.mono o11 (by simp; omega))
  generalize manE q11 _ = e12 at *
  have o13 := bitM_ok (k := 685 + j) (Mok.mono o12 (by omega)) (freshM (freshM (freshM (freshM m k) v) o) rh).vals.length d
  generalize bitM e12.1 _ d = q13 at *
  generalize (bitE e12.1 _ d).2.1 = B at *
  have o14 := clmS_ok (k := 397 + j) B P q13 e12.2 (Mok.mono o13 (by omega))
  generalize clmS B P q13 e12.2 = e14 at *
  have o15 := Mok.lin (k := 395 + j) (Mok.mono o14 (by omega)) (sumS 0 288230376287764480 [e14.2, ro])
  generalize linM e14.1 _ = q15 at *
  have o16 : Mok (393 + j) (mulM q15 (freshM m k).vals.length e14.1.vals.length) := Mok.prod (Mok.mono o15 (by omega)) _ _
  generalize mulM q15 _ _ = q16 at *
  have o17 := Mok.lin (k := 391 + j) (Mok.mono o16 (by omega)) []
  generalize linM q16 [] = q17 at *
  have o18 : Mok (390 + j) (sameM q17 q15.vals.length q16.vals.length) := Mok.row (Mok.mono o17 (by omega)) _ _ _
  generalize sameM q17 q15.vals.length q16.vals.length = q18 at *
  have o19 := manE_ok (k := 346 + j) (V := [hi, (freshM (freshM (freshM m k) v) o).vals.length, (freshM (freshM (freshM (freshM m k) v) o) rh).vals.length]) (Mok.mono o18 (by simp; omega))
  generalize manE q18 _ = e19 at *
  have o20 : Mok (345 + j) (sameM e19.1 e19.2 en) := Mok.row (Mok.mono o19 (by omega)) _ _ _
  generalize sameM e19.1 e19.2 en = q20 at *
  have o21 := twoM_ok (k := 331 + j) (Mok.mono o20 (by omega)) hi si
  exact Mok.row (Mok.mono o21 (by omega)) _ _ _

set_option maxHeartbeats 16000000 in
theorem circuit_input_c {m : Mk} {k v o rh a : Int} {p : List Int} {d ro si en an : Int} (o0 : Mok 900 m) (wk : w64 k) (wv : w64 v) (wo : w64 o) (wr : w64 rh) (ha : 0 ≤ a ∧ a < 9223372036854775808) (hp : wV p) (lp : p.length ≤ 16) (ld : d = p.length) : Fn Tryz.prog 28 [.ptr 0 0, .agg [u k, u v, u o, u rh, i a, ul p], i d, i ro, i si, i en, i an] [(0, mkB m 1 2), (1, rwB m.rows), (2, vlB m.vals)] (Tells (i (freshM m k).vals.length) (mkOut (inpM m k v o rh a p d ro si en an))) := by
  refine Fn.enter Tryz.func28 Tryz.ntmps28 rfl (h := ?_)
  have tf := tfm
  have ot_ : (false || true) = true := rfl
  subst ld
  have tf1 := tfn
  have tfr := tfr
  have wa : w64 a := ⟨ha.1, by omega⟩
  have ea : IntKind.u64.wrap a = a := i64_o ha.1 ha.2
  obtain ⟨q1, h_q1⟩ : ∃ x, x = freshM m k := ⟨_, rfl⟩
  obtain ⟨v0, h_v0⟩ : ∃ x : Int, x = (m.vals.length : Int) := ⟨_, rfl⟩
  have c1 := gadget_Maker_Private_c (m := m) (x := k) (Mok.mono o0 (by decide)) wk
  rw [← h_q1, ← h_v0] at c1
  have o1 : Mok 899 q1 := by rw [h_q1]; exact Mok.fresh (Mok.mono o0 (by decide)) _
  replace h_q1 : id (q1 = freshM m k) := h_q1
  replace h_v0 : id (v0 = (m.vals.length : Int)) := h_v0
  obtain ⟨q2, h_q2⟩ : ∃ x, x = freshM q1 v := ⟨_, rfl⟩
  obtain ⟨v1, h_v1⟩ : ∃ x : Int, x = (q1.vals.length : Int) := ⟨_, rfl⟩
  have c2 := gadget_Maker_Private_c (m := q1) (x := v) (Mok.mono o1 (by decide)) wv
  rw [← h_q2, ← h_v1] at c2
  have o2 : Mok 898 q2 := by rw [h_q2]; exact Mok.fresh (Mok.mono o1 (by decide)) _
  replace h_q2 : id (q2 = freshM q1 v) := h_q2
  replace h_v1 : id (v1 = (q1.vals.length : Int)) := h_v1
  obtain ⟨q3, h_q3⟩ : ∃ x, x = freshM q2 o := ⟨_, rfl⟩
  obtain ⟨v2, h_v2⟩ : ∃ x : Int, x = (q2.vals.length : Int) := ⟨_, rfl⟩
  have c3 := gadget_Maker_Private_c (m := q2) (x := o) (Mok.mono o2 (by decide)) wo
  rw [← h_q3, ← h_v2] at c3
  have o3 : Mok 897 q3 := by rw [h_q3]; exact Mok.fresh (Mok.mono o2 (by decide)) _
  replace h_q3 : id (q3 = freshM q2 o) := h_q3
  replace h_v2 : id (v2 = (q2.vals.length : Int)) := h_v2
  obtain ⟨q4, h_q4⟩ : ∃ x, x = freshM q3 rh := ⟨_, rfl⟩
  obtain ⟨v3, h_v3⟩ : ∃ x : Int, x = (q3.vals.length : Int) := ⟨_, rfl⟩
  have c4 := gadget_Maker_Private_c (m := q3) (x := rh) (Mok.mono o3 (by decide)) wr
  rw [← h_q4, ← h_v3] at c4
  have o4 : Mok 896 q4 := by rw [h_q4]; exact Mok.fresh (Mok.mono o3 (by decide)) _
  replace h_q4 : id (q4 = freshM q3 rh) := h_q4
  replace h_v3 : id (v3 = (q3.vals.length : Int)) := h_v3
  obtain ⟨q5, h_q5⟩ : ∃ x, x = freshM q4 a := ⟨_, rfl⟩
  obtain ⟨v4, h_v4⟩ : ∃ x : Int, x = (q4.vals.length : Int) := ⟨_, rfl⟩
  have c5 := gadget_Maker_Private_c (m := q4) (x := a) (Mok.mono o4 (by decide)) wa
  rw [← h_q5, ← h_v4] at c5
  have o5 : Mok 895 q5 := by rw [h_q5]; exact Mok.fresh (Mok.mono o4 (by decide)) _
  replace h_q5 : id (q5 = freshM q4 a) := h_q5
  replace h_v4 : id (v4 = (q4.vals.length : Int)) := h_v4
  refine AW.mv 1 1001 (h := ?_)
  refine AW.mv 2 1002 (h := ?_)
  repeat refine AW.seq ?_
  refine AW.reg ?_
  iterate 2 refine AOL.s1 (h := ?_)
  refine AOL.nil ?_
  refine AW.kq [0, 2, 3, 4, 5, 6, 8] (h := ?_)
  repeat refine AW.seq ?_
  refine AW.dM 23 [(1128, ⟨27, true, [u k, u v, u o, u rh, i a, ul p]⟩)] [1001, 1002, 1001, 1002] (by kernel_rfl) (h := ?_)
  iterate 3 refine ADM.dm (h := ?_)
  refine ADM.callM (l := 0) (b := 1000) (c1) rfl (by kernel_rfl) rfl rfl rfl rfl rfl rfl rfl rfl (by simp only [St.drops, St.drop, mapT, mapH, kill, kills, del, ins, reduceIte, Nat.reduceAdd, Nat.reduceLT, Nat.reduceEqDiff, Bool.false_eq_true]; exact rfl) (by simp only [List.cons_append, List.nil_append, List.length_cons, List.length_nil, Nat.zero_add, Nat.reduceAdd]; exact rfl) (by simp only [List.cons_append, List.nil_append, List.length_cons, List.length_nil, Nat.zero_add, Nat.reduceAdd]; exact rfl) ?_
  iterate 4 refine ADM.dm (h := ?_)
  refine ADM.callM (l := 0) (b := 1000) (c2) rfl (by kernel_rfl) rfl rfl rfl rfl rfl rfl rfl rfl (by simp only [St.drops, St.drop, mapT, mapH, kill, kills, del, ins, reduceIte, Nat.reduceAdd, Nat.reduceLT, Nat.reduceEqDiff, Bool.false_eq_true]; exact rfl) (by simp only [List.cons_append, List.nil_append, List.length_cons, List.length_nil, Nat.zero_add, Nat.reduceAdd]; exact rfl) (by simp only [List.cons_append, List.nil_append, List.length_cons, List.length_nil, Nat.zero_add, Nat.reduceAdd]; exact rfl) ?_
  iterate 4 refine ADM.dm (h := ?_)
  refine ADM.callM (l := 0) (b := 1000) (c3) rfl (by kernel_rfl) rfl rfl rfl rfl rfl rfl rfl rfl (by simp only [St.drops, St.drop, mapT, mapH, kill, kills, del, ins, reduceIte, Nat.reduceAdd, Nat.reduceLT, Nat.reduceEqDiff, Bool.false_eq_true]; exact rfl) (by simp only [List.cons_append, List.nil_append, List.length_cons, List.length_nil, Nat.zero_add, Nat.reduceAdd]; exact rfl) (by simp only [List.cons_append, List.nil_append, List.length_cons, List.length_nil, Nat.zero_add, Nat.reduceAdd]; exact rfl) ?_
  iterate 4 refine ADM.dm (h := ?_)
  refine ADM.callM (l := 0) (b := 1000) (c4) rfl (by kernel_rfl) rfl rfl rfl rfl rfl rfl rfl rfl (by simp only [St.drops, St.drop, mapT, mapH, kill, kills, del, ins, reduceIte, Nat.reduceAdd, Nat.reduceLT, Nat.reduceEqDiff, Bool.false_eq_true]; exact rfl) (by simp only [List.cons_append, List.nil_append, List.length_cons, List.length_nil, Nat.zero_add, Nat.reduceAdd]; exact rfl) (by simp only [List.cons_append, List.nil_append, List.length_cons, List.length_nil, Nat.zero_add, Nat.reduceAdd]; exact rfl) ?_
  iterate 4 refine ADM.dm (h := ?_)
  refine ADM.done hmix (by kernel_rfl) rfl (by simp only [chainP, and_self, and_true]) rfl ⟨by simp [List.forall_mem_cons], by simp [List.forall_mem_cons]⟩ (by intro l_ hl_; simp only [List.mem_cons, List.not_mem_nil, or_false] at hl_; rcases hl_ with rfl | rfl | rfl | rfl <;> rfl) (by intro l_ hl_; simp only [List.mem_cons, List.not_mem_nil, or_false] at hl_; rcases hl_ with rfl | rfl | rfl | rfl <;> rfl) (hT := ?_)
  refine AOL.callM (l := 0) (b := 1000) (c5) rfl (by kernel_rfl) rfl rfl rfl rfl rfl (hst := by simp only [St.drops, St.drop, mapT, mapH, kill, kills, del, St.put, ins, reduceIte, Nat.reduceAdd, Nat.reduceLT, Nat.reduceEqDiff, Bool.false_eq_true]; exact rfl) ?_
  iterate 5 refine AOL.s1 (h := ?_)
  refine AOL.nil ?_
  refine AW.kq [0, 2, 3, 4, 5, 6, 8, 15, 16, 17, 18, 19] (h := ?_)
  repeat refine AW.seq ?_
  refine AW.reg ?_
  iterate 1 refine AOL.s1 (h := ?_)
  refine AOL.nil ?_
  refine AW.kq [0, 2, 3, 4, 5, 6, 8, 15, 16, 17, 18, 19, 20] (h := ?_)
  repeat refine AW.seq ?_
  refine AW.reg ?_
  iterate 4 refine AOL.s1 (h := ?_)
  refine AOL.nil ?_
  refine AW.kq [0, 2, 3, 4, 5, 6, 15, 16, 17, 18, 19, 20, 57, 58, 59] (h := ?_)
  repeat refine AW.seq ?_
  refine AW.block ?_
  repeat refine AW.seq ?_
  refine AW.born 20 9003 3 1 (.inl rfl) (h := ?_)
  refine AW.loopK [0, 2, 3, 4, 5, 6, 15, 16, 17, 18, 19, 20, 57, 58, 59] (fun n' s => ∃ (j : Nat) (q : Mk) (l : List Int) (r : List Int), s = ⟨156, [(0, .ptr 0 0), (2, i p.length), (3, i ro), (4, i si), (5, i en), (6, i an), (15, i v0), (16, i v1), (17, i v2), (18, i v3), (19, i v4), (20, .ref 9003 0 j 1), (57, ul p), (58, i p.length), (59, i j)], [(0, mkB q 1001 1002), (1001, rwB q.rows), (1002, vlB q.vals), (1128, ⟨27, true, [u k, u v, u o, u rh, i a, ul p]⟩), (9003, ⟨3, false, fm i1 l⟩)]⟩ ∧ p.drop j = r ∧ j ≤ p.length ∧ n' = r.length ∧ l.length = j ∧ Mok (r.length + 879) q ∧ id (pthS r q l = pthS p q5 []) ∧ id (n' = n')) (p.length) ?_ ?_
  · exact ⟨0, q5, [], p, rfl, rfl, Nat.zero_le _, rfl, rfl, Mok.mono o5 (by omega), rfl, rfl⟩
  rintro n' s ⟨j, q, l, r, rfl, hr, hjl, rfl, hl, oq, hs, _⟩
  repeat refine AW.seq ?_
  refine AW.reg ?_
  iterate 1 refine AOL.s1 (h := ?_)
  refine AOL.nil ?_
  refine AW.kq [0, 2, 3, 4, 5, 6, 15, 16, 17, 18, 19, 20, 57, 58, 59, 60] (h := ?_)
  repeat refine AW.seq ?_
  refine AW.cond rfl (fun c_ => ?_) (fun c_ => ?_)
  · obtain ⟨z, r, rfl⟩ := ends_cons hr hjl (by simpa using c_)
    obtain ⟨hlt, hr', hz⟩ := dconsq hr
    have hw := incq hlt (by omega)
    have k0 : (0:Int) ≤ j := by omega
    have k1 : (j:Int) < p.length := by omega
    have hd1 : (fm u1 p).drop (j * 1) = u z :: fm u1 r := fm_drop u1_len hr
    have hd' : (fm u1 p).drop j = u z :: fm u1 r := by simpa using hd1
    clear hd1 hr
    have wz : w64 z := hp z (List.mem_of_getElem? hz)
    have ll : (fm i1 l).length = j := by rw [fm_len i1_len, Nat.mul_one, hl]
    have o1 : (j + 1) * 8 ≤ 140737488355328 := by omega
    have o3 : j ≤ 4611686018427387903 := by omega
    have o2 : j + 1 ≤ 4611686018427387904 := by omega
    have cq := gadget_Maker_Private_c (m := q) (x := z) (Mok.mono oq (by omega)) wz
    refine AW.skip ?_
    repeat refine AW.seq ?_
    refine AW.block ?_
    repeat refine AW.seq ?_
    refine AW.reg ?_
    iterate 3 refine AOL.s1 (h := ?_)
    refine AOL.nil ?_
    refine AW.kq [0, 2, 3, 4, 5, 6, 15, 16, 17, 18, 19, 20, 22, 57, 58, 59] (h := ?_)
    repeat refine AW.seq ?_
    refine AW.reg ?_
    iterate 3 refine AOL.s1 (h := ?_)
    refine AOL.callM (l := 0) (b := 1000) (cq) rfl (by kernel_rfl) rfl rfl rfl rfl rfl (hst := by simp only [St.drops, St.drop, mapT, mapH, kill, kills, del, St.put, ins, reduceIte, Nat.reduceAdd, Nat.reduceLT, Nat.reduceEqDiff, Bool.false_eq_true]; exact rfl) ?_
    iterate 3 refine AOL.s1 (h := ?_)
    refine AOL.nil ?_
    repeat refine AW.seq ?_
    refine AW.let 2072 (h := ?_)
    refine AW.reg ?_
    iterate 2 refine AOL.s1 (h := ?_)
    refine AOL.nil ?_
    refine ⟨r.length, by simp, j + 1, freshM q z, l ++ [(q.vals.length : Int)], r, ?_, hr', hlt, rfl, by rw [List.length_append, hl]; rfl, Mok.fresh (Mok.mono oq (by simp)) _, hs, rfl⟩
    rw [fmi_snoc]; rfl
  · obtain rfl := ends_nil hr (by simpa using c_)
    have hs' : pthS p q5 [] = (q, l) := by rw [← show _ = _ from hs]; rfl
    clear hs
    have lP : l.length = p.length := by
      have := pthS_len p q5 []
      rw [hs'] at this; simpa using this
    have jl : j = p.length := by omega
    subst jl
    have hfl : AV.sl p.length (sub 0 (p.length * 1) (fm i1 l)) = il l := by rw [← lP, sub_all (by rw [fm_len i1_len]; exact Nat.le_refl _)]
    refine AW.fz 9003 rfl (fun h => by cases h) (h := ?_)
    rw [hfl]
    clear hfl hl hr
    replace hs' : id (pthS p q5 [] = (q, l)) := hs'
    replace oq : Mok 879 q := Mok.mono oq (by omega)
    obtain ⟨q7, h_q7⟩ : ∃ x, x = linM q [⟨0, 1⟩] := ⟨_, rfl⟩
    obtain ⟨k1, h_k1⟩ : ∃ x : Int, x = (q.vals.length : Int) := ⟨_, rfl⟩
    have c7 := gadget_Maker_Linear_c (m := q) (L := [⟨0, 1⟩]) (Mok.mono oq (by decide)) (⟨by simp, fun t ht => by simp only [List.mem_singleton] at ht; subst ht; exact ⟨by decide, by decide⟩⟩)
    rw [← h_q7, ← h_k1] at c7
    have o7 : Mok 877 q7 := by rw [h_q7]; exact Mok.lin (Mok.mono oq (by decide)) _
    replace h_q7 : id (q7 = linM q [⟨0, 1⟩]) := h_q7
    replace h_k1 : id (k1 = (q.vals.length : Int)) := h_k1
    obtain ⟨q8, h_q8⟩ : ∃ x, x = twoM q7 v0 k1 := ⟨_, rfl⟩
    obtain ⟨hi, h_hi⟩ : ∃ x : Int, x = twoR q7 v0 k1 := ⟨_, rfl⟩
    have c8 := gadget_Maker_Two_c (m := q7) (a := v0) (b := k1) (Mok.mono o7 (by decide))
    rw [← h_q8, ← h_hi] at c8
    have o8 : Mok 863 q8 := by rw [h_q8]; exact twoM_ok (Mok.mono o7 (by decide)) _ _
    replace h_q8 : id (q8 = twoM q7 v0 k1) := h_q8
    replace h_hi : id (hi = twoR q7 v0 k1) := h_hi
    obtain ⟨q9, h_q9⟩ : ∃ x, x = linM q8 [⟨0, 2⟩] := ⟨_, rfl⟩
    obtain ⟨k2, h_k2⟩ : ∃ x : Int, x = (q8.vals.length : Int) := ⟨_, rfl⟩
    have c9 := gadget_Maker_Linear_c (m := q8) (L := [⟨0, 2⟩]) (Mok.mono o8 (by decide)) (⟨by simp, fun t ht => by simp only [List.mem_singleton] at ht; subst ht; exact ⟨by decide, by decide⟩⟩)
    rw [← h_q9, ← h_k2] at c9
    have o9 : Mok 861 q9 := by rw [h_q9]; exact Mok.lin (Mok.mono o8 (by decide)) _
    replace h_q9 : id (q9 = linM q8 [⟨0, 2⟩]) := h_q9
    replace h_k2 : id (k2 = (q8.vals.length : Int)) := h_k2
    obtain ⟨q10, h_q10⟩ : ∃ x, x = twoM q9 v0 k2 := ⟨_, rfl⟩
    obtain ⟨ow, h_ow⟩ : ∃ x : Int, x = twoR q9 v0 k2 := ⟨_, rfl⟩
    have c10 := gadget_Maker_Two_c (m := q9) (a := v0) (b := k2) (Mok.mono o9 (by decide))
    rw [← h_q10, ← h_ow] at c10
    have o10 : Mok 847 q10 := by rw [h_q10]; exact twoM_ok (Mok.mono o9 (by decide)) _ _
    replace h_q10 : id (q10 = twoM q9 v0 k2) := h_q10
    replace h_ow : id (ow = twoR q9 v0 k2) := h_ow
    obtain ⟨q11, h_q11⟩ : ∃ x, x = sameM q10 ow v2 := ⟨_, rfl⟩
    have c11 := gadget_Maker_Same_c (m := q10) (a := ow) (b := v2) (Mok.mono o10 (by decide))
    rw [← h_q11] at c11
    have o11 : Mok 846 q11 := by rw [h_q11]; exact Mok.row (Mok.mono o10 (by decide)) _ _ _
    replace h_q11 : id (q11 = sameM q10 ow v2) := h_q11
    obtain ⟨q12, h_q12⟩ : ∃ x, x = (manE q11 [v1, v2, v3]).1 := ⟨_, rfl⟩
    obtain ⟨h12, h_h12⟩ : ∃ x : Int, x = (manE q11 [v1, v2, v3]).2 := ⟨_, rfl⟩
    have c12 := gadget_Maker_Many_c (m := q11) (V := [v1, v2, v3]) (Mok.mono o11 (by simp))
    rw [← h_q12, ← h_h12] at c12
    have o12 : Mok 802 q12 := by rw [h_q12]; exact manE_ok (Mok.mono o11 (by simp))
    replace h_q12 : id (q12 = (manE q11 [v1, v2, v3]).1) := h_q12
    replace h_h12 : id (h12 = (manE q11 [v1, v2, v3]).2) := h_h12
    obtain ⟨q13, h_q13⟩ : ∃ x, x = bitM q12 v4 p.length := ⟨_, rfl⟩
    have c13 := gadget_Maker_Bits_c (m := q12) (a := v4) (n := p.length) (Mok.mono o12 (by decide))
    rw [← h_q13] at c13
    have o13 : Mok 685 q13 := by rw [h_q13]; exact bitM_ok (Mok.mono o12 (by decide)) _ _
    replace h_q13 : id (q13 = bitM q12 v4 p.length) := h_q13
    obtain ⟨bs0, h_bs0⟩ : ∃ x, x = (bitE q12 v4 p.length).2.1 := ⟨_, rfl⟩
    rw [← h_bs0] at c13
    have lB : bs0.length = p.length := by
      rw [h_bs0]
      have := bitS_len (isM q12.vals v4) (bitN p.length) 0 q12 [] []
      have e : bitN p.length = p.length := by
        have h : bitN (p.length : Int) = (p.length : Int).toNat := if_neg (by omega)
        rw [h]; omega
      show (bitS (isM q12.vals v4) (bitN p.length) 0 q12 [] []).2.1.length = _
      rw [e] at this ⊢; simpa using this
    replace h_bs0 : id (bs0 = (bitE q12 v4 p.length).2.1) := h_bs0
    rw [show il bs0 = AV.sl p.length (fm i1 bs0) by rw [← lB]] at c13
    repeat refine AW.seq ?_
    refine AW.exit ?_
    repeat (first | refine Kseq.ex ?_ | refine Kloop.ex ?_ | refine Kblock.miss (by decide) ?_)
    refine Kblock.hit ?_
    refine AW.kq [0, 2, 3, 4, 5, 6, 15, 16, 17, 18, 19, 20] (h := ?_)
    repeat refine AW.seq ?_
    refine AW.reg ?_
    iterate 5 refine AOL.s1 (h := ?_)
    refine AOL.fz 2184 rfl (fun h => by cases h) (h := ?_)
    refine AOL.callM (l := 0) (b := 1000) (c7) rfl (by kernel_rfl) rfl rfl rfl rfl rfl (hst := by simp only [St.drops, St.drop, mapT, mapH, kill, kills, del, St.put, ins, reduceIte, Nat.reduceAdd, Nat.reduceLT, Nat.reduceEqDiff, Bool.false_eq_true]; exact rfl) ?_
    refine AOL.callM (l := 0) (b := 1000) (c8) rfl (by kernel_rfl) rfl rfl rfl rfl rfl (hst := by simp only [St.drops, St.drop, mapT, mapH, kill, kills, del, St.put, ins, reduceIte, Nat.reduceAdd, Nat.reduceLT, Nat.reduceEqDiff, Bool.false_eq_true]; exact rfl) ?_
    iterate 1 refine AOL.s1 (h := ?_)
    refine AOL.nil ?_
    refine AW.kq [0, 2, 3, 4, 5, 6, 15, 16, 17, 18, 19, 20, 23] (h := ?_)
    repeat refine AW.seq ?_
    refine AW.reg ?_
    iterate 5 refine AOL.s1 (h := ?_)
    refine AOL.fz 2296 rfl (fun h => by cases h) (h := ?_)
    refine AOL.callM (l := 0) (b := 1000) (c9) rfl (by kernel_rfl) rfl rfl rfl rfl rfl (hst := by simp only [St.drops, St.drop, mapT, mapH, kill, kills, del, St.put, ins, reduceIte, Nat.reduceAdd, Nat.reduceLT, Nat.reduceEqDiff, Bool.false_eq_true]; exact rfl) ?_
    refine AOL.callM (l := 0) (b := 1000) (c10) rfl (by kernel_rfl) rfl rfl rfl rfl rfl (hst := by simp only [St.drops, St.drop, mapT, mapH, kill, kills, del, St.put, ins, reduceIte, Nat.reduceAdd, Nat.reduceLT, Nat.reduceEqDiff, Bool.false_eq_true]; exact rfl) ?_
    iterate 1 refine AOL.s1 (h := ?_)
    refine AOL.nil ?_
    refine AW.kq [0, 2, 3, 4, 5, 6, 16, 17, 18, 19, 20, 23, 24] (h := ?_)
    repeat refine AW.seq ?_
    refine AW.reg ?_
    iterate 3 refine AOL.s1 (h := ?_)
    refine AOL.callM (l := 0) (b := 1000) (c11) rfl (by kernel_rfl) rfl rfl rfl rfl rfl (hst := by simp only [St.drops, St.drop, mapT, mapH, kill, kills, del, St.put, ins, reduceIte, Nat.reduceAdd, Nat.reduceLT, Nat.reduceEqDiff, Bool.false_eq_true]; exact rfl) ?_
    refine AOL.nil ?_
    refine AW.kq [0, 2, 3, 4, 5, 6, 16, 17, 18, 19, 20, 23] (h := ?_)
    repeat refine AW.seq ?_
    refine AW.reg ?_
    iterate 5 refine AOL.s1 (h := ?_)
    refine AOL.fz 2472 rfl (fun h => by cases h) (h := ?_)
    refine AOL.callM (l := 0) (b := 1000) (c12) rfl (by kernel_rfl) rfl rfl rfl rfl rfl (hst := by simp only [St.drops, St.drop, mapT, mapH, kill, kills, del, St.put, ins, reduceIte, Nat.reduceAdd, Nat.reduceLT, Nat.reduceEqDiff, Bool.false_eq_true]; exact rfl) ?_
    iterate 1 refine AOL.s1 (h := ?_)
    refine AOL.nil ?_
    refine AW.kq [0, 2, 3, 4, 5, 6, 16, 18, 19, 20, 23, 25] (h := ?_)
    repeat refine AW.seq ?_
    refine AW.reg ?_
    iterate 3 refine AOL.s1 (h := ?_)
    refine AOL.callM (l := 0) (b := 1000) (c13) rfl (by kernel_rfl) rfl rfl rfl rfl rfl (hst := by simp only [St.drops, St.drop, mapT, mapH, kill, kills, del, St.put, ins, reduceIte, Nat.reduceAdd, Nat.reduceLT, Nat.reduceEqDiff, Bool.false_eq_true]; exact rfl) ?_
    iterate 1 refine AOL.s1 (h := ?_)
    refine AOL.nil ?_
    refine AW.kq [0, 3, 4, 5, 6, 16, 18, 19, 20, 23, 25, 26] (h := ?_)
    repeat refine AW.seq ?_
    refine AW.reg ?_
    iterate 3 refine AOL.s1 (h := ?_)
    refine AOL.nil ?_
    refine AW.kq [0, 3, 4, 5, 6, 16, 18, 19, 23, 25, 26, 98, 99, 100] (h := ?_)
    repeat refine AW.seq ?_
    refine AW.block ?_
    repeat refine AW.seq ?_
    refine AW.loopK [0, 3, 4, 5, 6, 16, 18, 19, 23, 25, 26, 98, 99, 100] (fun n' s => ∃ (j : Nat) (g : Mk) (h : Int) (bs ps : List Int), s = ⟨156, [(0, .ptr 0 0), (3, i ro), (4, i si), (5, i en), (6, i an), (16, i v1), (18, i v3), (19, i v4), (23, i hi), (25, i h), (26, .sl p.length (fm i1 bs0)), (98, .sl p.length (fm i1 l)), (99, i p.length), (100, i j)], [(0, mkB g 1001 1002), (1001, rwB g.rows), (1002, vlB g.vals), (1128, ⟨27, true, [u k, u v, u o, u rh, i a, ul p]⟩)]⟩ ∧ bs0.drop j = bs ∧ l.drop j = ps ∧ j ≤ l.length ∧ n' = ps.length ∧ Mok (18 * ps.length + 397) g ∧ id (clmS bs ps g h = clmS bs0 l q13 h12) ∧ id (n' = n')) (p.length) ?_ ?_
    · exact ⟨0, q13, h12, bs0, l, rfl, rfl, rfl, Nat.zero_le _, lP.symm, Mok.mono o13 (by omega), rfl, rfl⟩
    rintro n' s ⟨j, g, h, bs, ps, rfl, hb, hr, hjl, rfl, og, hs, _⟩
    repeat refine AW.seq ?_
    refine AW.reg ?_
    iterate 1 refine AOL.s1 (h := ?_)
    refine AOL.nil ?_
    refine AW.kq [0, 3, 4, 5, 6, 16, 18, 19, 23, 25, 26, 98, 99, 100, 101] (h := ?_)
    repeat refine AW.seq ?_
    refine AW.cond rfl (fun d_ => ?_) (fun d_ => ?_)
    · obtain ⟨z, ps, rfl⟩ := ends_cons hr hjl (by rw [lP]; simpa using d_)
      obtain ⟨hlt, hr', hz⟩ := dconsq hr
      obtain ⟨y, bs, rfl⟩ := ends_cons hb (by omega) (by rw [lB]; simpa using d_)
      obtain ⟨hlb, hb', hy⟩ := dconsq hb
      have hw := incq hlt (by omega)
      have k0 : (0:Int) ≤ j := by omega
      have k1' : (j:Int) < p.length := by omega
      have hd1 : (fm i1 l).drop (j * 1) = i z :: fm i1 ps := fm_drop i1_len hr
      have hd' : (fm i1 l).drop j = i z :: fm i1 ps := by simpa using hd1
      have he1 : (fm i1 bs0).drop (j * 1) = i y :: fm i1 bs := fm_drop i1_len hb
      have he' : (fm i1 bs0).drop j = i y :: fm i1 bs := by simpa using he1
      clear hd1 he1 hr hb
      have ca := gadget_Maker_Choose_c (m := g) (c := y) (a := z) (b := h) (Mok.mono og (by rw [List.length_cons]; omega))
      have cb := gadget_Maker_Choose_c (m := choM g y z h) (c := y) (a := h) (b := z) (Mok.cho (Mok.mono og (by rw [List.length_cons]; omega)) _ _ _)
      have oc : Mok (14 + (18 * ps.length + 397)) (choM (choM g y z h) y h z) := Mok.cho (Mok.cho (Mok.mono og (by rw [List.length_cons]; omega)) _ _ _) _ _ _
      have cc := gadget_Maker_Two_c (m := choM (choM g y z h) y h z) (a := g.vals.length) (b := (choM g y z h).vals.length) (Mok.mono oc (by omega))
      refine AW.skip ?_
      repeat refine AW.seq ?_
      refine AW.block ?_
      repeat refine AW.seq ?_
      refine AW.reg ?_
      iterate 5 refine AOL.s1 (h := ?_)
      refine AOL.nil ?_
      refine AW.kq [0, 3, 4, 5, 6, 16, 18, 19, 23, 25, 26, 27, 28, 98, 99, 100] (h := ?_)
      repeat refine AW.seq ?_
      refine AW.reg ?_
      iterate 7 refine AOL.s1 (h := ?_)
      refine AOL.callM (l := 0) (b := 1000) (ca) rfl (by kernel_rfl) rfl rfl rfl rfl rfl (hst := by simp only [St.drops, St.drop, mapT, mapH, kill, kills, del, St.put, ins, reduceIte, Nat.reduceAdd, Nat.reduceLT, Nat.reduceEqDiff, Bool.false_eq_true]; exact rfl) ?_
      iterate 1 refine AOL.s1 (h := ?_)
      refine AOL.nil ?_
      refine AW.kq [0, 3, 4, 5, 6, 16, 18, 19, 23, 25, 26, 27, 28, 29, 98, 99, 100] (h := ?_)
      repeat refine AW.seq ?_
      refine AW.reg ?_
      iterate 7 refine AOL.s1 (h := ?_)
      refine AOL.callM (l := 0) (b := 1000) (cb) rfl (by kernel_rfl) rfl rfl rfl rfl rfl (hst := by simp only [St.drops, St.drop, mapT, mapH, kill, kills, del, St.put, ins, reduceIte, Nat.reduceAdd, Nat.reduceLT, Nat.reduceEqDiff, Bool.false_eq_true]; exact rfl) ?_
      iterate 1 refine AOL.s1 (h := ?_)
      refine AOL.nil ?_
      refine AW.kq [0, 3, 4, 5, 6, 16, 18, 19, 23, 26, 29, 30, 98, 99, 100] (h := ?_)
      repeat refine AW.seq ?_
      refine AW.reg ?_
      iterate 3 refine AOL.s1 (h := ?_)
      refine AOL.callM (l := 0) (b := 1000) (cc) rfl (by kernel_rfl) rfl rfl rfl rfl rfl (hst := by simp only [St.drops, St.drop, mapT, mapH, kill, kills, del, St.put, ins, reduceIte, Nat.reduceAdd, Nat.reduceLT, Nat.reduceEqDiff, Bool.false_eq_true]; exact rfl) ?_
      iterate 1 refine AOL.s1 (h := ?_)
      refine AOL.nil ?_
      repeat refine AW.seq ?_
      refine AW.reg ?_
      iterate 2 refine AOL.s1 (h := ?_)
      refine AOL.nil ?_
      exact ⟨ps.length, by simp, j + 1, twoM (choM (choM g y z h) y h z) g.vals.length (choM g y z h).vals.length, twoR (choM (choM g y z h) y h z) g.vals.length (choM g y z h).vals.length, bs, ps, rfl, hb', hr', hlt, rfl, twoM_ok oc _ _, hs, rfl⟩
    · obtain rfl := ends_nil hr (by rw [lP]; simpa using d_)
      have hs14 : id (clmS bs0 l q13 h12 = (g, h)) := by rw [← show _ = _ from hs]; cases bs <;> rfl
      clear hs hb hr
      replace og : Mok 397 g := Mok.mono og (by omega)
      obtain ⟨q15, h_q15⟩ : ∃ x, x = linM g (sumS 0 288230376287764480 [h, ro]) := ⟨_, rfl⟩
      obtain ⟨k3, h_k3⟩ : ∃ x : Int, x = (g.vals.length : Int) := ⟨_, rfl⟩
      have c15 := circuit_sum_c (m := g) (k := 288230376287764480) (V := [h, ro]) (Mok.mono og (by decide)) w64_m1 (by simp)
      rw [← h_q15, ← h_k3] at c15
      have o15 : Mok 395 q15 := by rw [h_q15]; exact Mok.lin (Mok.mono og (by decide)) _
      replace h_q15 : id (q15 = linM g (sumS 0 288230376287764480 [h, ro])) := h_q15
      replace h_k3 : id (k3 = (g.vals.length : Int)) := h_k3
      obtain ⟨q16, h_q16⟩ : ∃ x, x = mulM q15 v1 k3 := ⟨_, rfl⟩
      obtain ⟨off, h_off⟩ : ∃ x : Int, x = (q15.vals.length : Int) := ⟨_, rfl⟩
      have c16 := gadget_Maker_Mul_c (m := q15) (a := v1) (b := k3) (Mok.mono o15 (by decide))
      rw [← h_q16, ← h_off] at c16
      have o16 : Mok 393 q16 := by rw [h_q16]; exact Mok.prod (Mok.mono o15 (by decide)) _ _
      replace h_q16 : id (q16 = mulM q15 v1 k3) := h_q16
      replace h_off : id (off = (q15.vals.length : Int)) := h_off
      obtain ⟨q17, h_q17⟩ : ∃ x, x = linM q16 [] := ⟨_, rfl⟩
      obtain ⟨k4, h_k4⟩ : ∃ x : Int, x = (q16.vals.length : Int) := ⟨_, rfl⟩
      have c17 := lin_nil (m := q16) (Mok.mono o16 (by decide))
      rw [← h_q17, ← h_k4] at c17
      have o17 : Mok 391 q17 := by rw [h_q17]; exact Mok.lin (Mok.mono o16 (by decide)) _
      replace h_q17 : id (q17 = linM q16 []) := h_q17
      replace h_k4 : id (k4 = (q16.vals.length : Int)) := h_k4
      obtain ⟨q18, h_q18⟩ : ∃ x, x = sameM q17 off k4 := ⟨_, rfl⟩
      have c18 := gadget_Maker_Same_c (m := q17) (a := off) (b := k4) (Mok.mono o17 (by decide))
      rw [← h_q18] at c18
      have o18 : Mok 390 q18 := by rw [h_q18]; exact Mok.row (Mok.mono o17 (by decide)) _ _ _
      replace h_q18 : id (q18 = sameM q17 off k4) := h_q18
      obtain ⟨q19, h_q19⟩ : ∃ x, x = (manE q18 [hi, v3, v4]).1 := ⟨_, rfl⟩
      obtain ⟨h19, h_h19⟩ : ∃ x : Int, x = (manE q18 [hi, v3, v4]).2 := ⟨_, rfl⟩
      have c19 := gadget_Maker_Many_c (m := q18) (V := [hi, v3, v4]) (Mok.mono o18 (by simp))
      rw [← h_q19, ← h_h19] at c19
      have o19 : Mok 346 q19 := by rw [h_q19]; exact manE_ok (Mok.mono o18 (by simp))
      replace h_q19 : id (q19 = (manE q18 [hi, v3, v4]).1) := h_q19
      replace h_h19 : id (h19 = (manE q18 [hi, v3, v4]).2) := h_h19
      obtain ⟨q20, h_q20⟩ : ∃ x, x = sameM q19 h19 en := ⟨_, rfl⟩
      have c20 := gadget_Maker_Same_c (m := q19) (a := h19) (b := en) (Mok.mono o19 (by decide))
      rw [← h_q20] at c20
      have o20 : Mok 345 q20 := by rw [h_q20]; exact Mok.row (Mok.mono o19 (by decide)) _ _ _
      replace h_q20 : id (q20 = sameM q19 h19 en) := h_q20
      obtain ⟨q21, h_q21⟩ : ∃ x, x = twoM q20 hi si := ⟨_, rfl⟩
      obtain ⟨an1, h_an1⟩ : ∃ x : Int, x = twoR q20 hi si := ⟨_, rfl⟩
      have c21 := gadget_Maker_Two_c (m := q20) (a := hi) (b := si) (Mok.mono o20 (by decide))
      rw [← h_q21, ← h_an1] at c21
      have o21 : Mok 331 q21 := by rw [h_q21]; exact twoM_ok (Mok.mono o20 (by decide)) _ _
      replace h_q21 : id (q21 = twoM q20 hi si) := h_q21
      replace h_an1 : id (an1 = twoR q20 hi si) := h_an1
      obtain ⟨q22, h_q22⟩ : ∃ x, x = sameM q21 an1 an := ⟨_, rfl⟩
      have c22 := gadget_Maker_Same_c (m := q21) (a := an1) (b := an) (Mok.mono o21 (by decide))
      rw [← h_q22] at c22
      have o22 : Mok 330 q22 := by rw [h_q22]; exact Mok.row (Mok.mono o21 (by decide)) _ _ _
      replace h_q22 : id (q22 = sameM q21 an1 an) := h_q22
      repeat refine AW.seq ?_
      refine AW.exit ?_
      repeat (first | refine Kseq.ex ?_ | refine Kloop.ex ?_ | refine Kblock.miss (by decide) ?_)
      refine Kblock.hit ?_
      refine AW.kq [0, 3, 4, 5, 6, 16, 18, 19, 23, 25] (h := ?_)
      repeat refine AW.seq ?_
      refine AW.reg ?_
      iterate 6 refine AOL.s1 (h := ?_)
      refine AOL.fz 3096 rfl (fun h => by cases h) (h := ?_)
      refine AOL.callM (l := 0) (b := 1000) (c15) rfl (by kernel_rfl) rfl rfl rfl rfl rfl (hst := by simp only [St.drops, St.drop, mapT, mapH, kill, kills, del, St.put, ins, reduceIte, Nat.reduceAdd, Nat.reduceLT, Nat.reduceEqDiff, Bool.false_eq_true]; exact rfl) ?_
      refine AOL.callM (l := 0) (b := 1000) (c16) rfl (by kernel_rfl) rfl rfl rfl rfl rfl (hst := by simp only [St.drops, St.drop, mapT, mapH, kill, kills, del, St.put, ins, reduceIte, Nat.reduceAdd, Nat.reduceLT, Nat.reduceEqDiff, Bool.false_eq_true]; exact rfl) ?_
      iterate 1 refine AOL.s1 (h := ?_)
      refine AOL.nil ?_
      refine AW.kq [0, 4, 5, 6, 16, 18, 19, 23, 31] (h := ?_)
      repeat refine AW.seq ?_
      refine AW.reg ?_
      iterate 3 refine AOL.s1 (h := ?_)
      refine AOL.callM (l := 0) (b := 1000) (c17) rfl (by kernel_rfl) rfl rfl rfl rfl rfl (hst := by simp only [St.drops, St.drop, mapT, mapH, kill, kills, del, St.put, ins, reduceIte, Nat.reduceAdd, Nat.reduceLT, Nat.reduceEqDiff, Bool.false_eq_true]; exact rfl) ?_
      refine AOL.callM (l := 0) (b := 1000) (c18) rfl (by kernel_rfl) rfl rfl rfl rfl rfl (hst := by simp only [St.drops, St.drop, mapT, mapH, kill, kills, del, St.put, ins, reduceIte, Nat.reduceAdd, Nat.reduceLT, Nat.reduceEqDiff, Bool.false_eq_true]; exact rfl) ?_
      refine AOL.nil ?_
      refine AW.kq [0, 4, 5, 6, 16, 18, 19, 23] (h := ?_)
      repeat refine AW.seq ?_
      refine AW.reg ?_
      iterate 6 refine AOL.s1 (h := ?_)
      refine AOL.fz 3304 rfl (fun h => by cases h) (h := ?_)
      refine AOL.callM (l := 0) (b := 1000) (c19) rfl (by kernel_rfl) rfl rfl rfl rfl rfl (hst := by simp only [St.drops, St.drop, mapT, mapH, kill, kills, del, St.put, ins, reduceIte, Nat.reduceAdd, Nat.reduceLT, Nat.reduceEqDiff, Bool.false_eq_true]; exact rfl) ?_
      iterate 1 refine AOL.s1 (h := ?_)
      refine AOL.callM (l := 0) (b := 1000) (c20) rfl (by kernel_rfl) rfl rfl rfl rfl rfl (hst := by simp only [St.drops, St.drop, mapT, mapH, kill, kills, del, St.put, ins, reduceIte, Nat.reduceAdd, Nat.reduceLT, Nat.reduceEqDiff, Bool.false_eq_true]; exact rfl) ?_
      refine AOL.nil ?_
      refine AW.kq [0, 4, 6, 16, 23] (h := ?_)
      repeat refine AW.seq ?_
      refine AW.reg ?_
      iterate 4 refine AOL.s1 (h := ?_)
      refine AOL.callM (l := 0) (b := 1000) (c21) rfl (by kernel_rfl) rfl rfl rfl rfl rfl (hst := by simp only [St.drops, St.drop, mapT, mapH, kill, kills, del, St.put, ins, reduceIte, Nat.reduceAdd, Nat.reduceLT, Nat.reduceEqDiff, Bool.false_eq_true]; exact rfl) ?_
      iterate 1 refine AOL.s1 (h := ?_)
      refine AOL.callM (l := 0) (b := 1000) (c22) rfl (by kernel_rfl) rfl rfl rfl rfl rfl (hst := by simp only [St.drops, St.drop, mapT, mapH, kill, kills, del, St.put, ins, reduceIte, Nat.reduceAdd, Nat.reduceLT, Nat.reduceEqDiff, Bool.false_eq_true]; exact rfl) ?_
      refine AOL.nil ?_
      refine AW.kq [16] (h := ?_)
      repeat refine AW.seq ?_
      refine AW.reg ?_
      iterate 2 refine AOL.s1 (h := ?_)
      refine AOL.nil ?_
      refine AW.kq [14] (h := ?_)
      repeat refine AW.seq ?_
      have eI : inpM m k v o rh a p p.length ro si en an = q22 := by
        simp only [id] at *
        unfold inpM
        subst h_q1 h_q2 h_q3 h_q4 h_q5
        simp only [hs']
        subst h_v0 h_v1 h_v2 h_v3 h_v4 h_k1 h_q7 h_hi h_q8 h_k2 h_q9 h_ow h_q10 h_q11 h_q12 h_h12 h_bs0 h_q13
        simp only [hs14]
        subst h_q15 h_k3 h_q16 h_off h_q17 h_k4 h_q18 h_q19 h_h19 h_q20 h_q21 h_an1 h_q22
        rfl
      rw [eI, ← show q1 = _ from h_q1, ← show v1 = _ from h_v1]
      refine AW.ret ?_
      refine ⟨_, mkOut q22, rfl, ?_, ?_⟩
      · exact fun x hx => List.mem_append_left [(1128, _)] hx
      · exact Tells.self
end Go.Proofs.YtngphcdhdllnnaaGreat.E.M
end
section
/- obollaw18: what the law makes by a maker: contracts over E. -/
set_option linter.unusedVariables false
set_option linter.unusedSimpArgs false
set_option maxRecDepth 10000
open Go Go.Proofs.YtngphcdhdllnnaaGreat.E Go.Proofs
namespace Go.Proofs.YtngphcdhdllnnaaGreat.E.M
set_option maxHeartbeats 4000000 in
theorem obollaw18_linear_c {m : Mk} {k : Int} {V : List Int} (hm : Mok 2 m) (hk : w64 k) (lV : V.length < 1000) : Fn Tryz.prog 17 [.ptr 0 0, u k, il V] [(0, mkB m 1 2), (1, rwB m.rows), (2, vlB m.vals)] (Tells (i m.vals.length) (mkOut (linM m (sumS 0 k V)))) := by
  refine Fn.enter Tryz.func17 Tryz.ntmps17 rfl (h := ?_)
  have tf := tfm
  have ot_ : (false || true) = true := rfl
  have tfr := tfr
  refine AW.mv 1 1001 (h := ?_)
  refine AW.mv 2 1002 (h := ?_)
  repeat refine AW.seq ?_
  refine AW.reg ?_
  iterate 1 refine AOL.s1 (h := ?_)
  refine AOL.nil ?_
  refine AW.kq [0, 1, 2] (h := ?_)
  repeat refine AW.seq ?_
  refine AW.reg ?_
  iterate 1 refine AOL.s1 (h := ?_)
  refine AOL.nil ?_
  refine AW.kq [0, 1, 2, 7] (h := ?_)
  repeat refine AW.seq ?_
  refine AW.reg ?_
  iterate 1 refine AOL.s1 (h := ?_)
  refine AOL.nil ?_
  refine AW.kq [0, 1, 2, 7, 8] (h := ?_)
  repeat refine AW.seq ?_
  refine AW.block ?_
  repeat refine AW.seq ?_
  refine AW.born 7 9001 80 2 (.inl rfl) (h := ?_)
  refine AW.loopK [0, 1, 2, 7, 8] (fun n s => ∃ (j : Nat) (l : List Tm) (r : List Int), s = ⟨31, [(0, .ptr 0 0), (1, u k), (2, il V), (7, .ref 9001 0 j 2), (8, i j)], [(0, mkB m 1001 1002), (1001, rwB m.rows), (1002, vlB m.vals), (9001, ⟨80, false, fm tm l⟩)]⟩ ∧ V.drop j = r ∧ j ≤ V.length ∧ n = r.length ∧ l.length = j ∧ wT l ∧ l ++ sumS j k r = sumS 0 k V) (V.length) ?_ ?_
  · exact ⟨0, [], V, rfl, rfl, Nat.zero_le _, rfl, rfl, (fun t ht => by cases ht), rfl⟩
  rintro n s ⟨j, l, r, rfl, hr, hjl, rfl, hl, hlw, hs⟩
  repeat refine AW.seq ?_
  refine AW.reg ?_
  iterate 4 refine AOL.s1 (h := ?_)
  refine AOL.nil ?_
  refine AW.kq [0, 1, 2, 7, 8, 13] (h := ?_)
  repeat refine AW.seq ?_
  refine AW.cond rfl (fun c_ => ?_) (fun c_ => ?_)
  · obtain ⟨z, r, rfl⟩ := ends_cons hr hjl (by simpa using c_)
    obtain ⟨hlt, hr', ht⟩ := dconsq hr
    have hw := incq hlt (by omega)
    have k0 : (0:Int) ≤ j := by omega
    have k1 : (j:Int) < V.length := by omega
    have hd1 : (fm i1 V).drop (j * 1) = i z :: fm i1 r := fm_drop i1_len hr
    have hd' : (fm i1 V).drop j = i z :: fm i1 r := by simpa using hd1
    clear hd1
    refine AW.skip ?_
    repeat refine AW.seq ?_
    refine AW.block ?_
    repeat refine AW.seq ?_
    refine AW.reg ?_
    iterate 2 refine AOL.s1 (h := ?_)
    refine AOL.nil ?_
    refine AW.kq [0, 1, 2, 7, 8, 9] (h := ?_)
    repeat refine AW.seq ?_
    refine AW.reg ?_
    iterate 2 refine AOL.s1 (h := ?_)
    refine AOL.nil ?_
    refine AW.kq [0, 1, 2, 7, 8, 9, 18] (h := ?_)
    repeat refine AW.seq ?_
    refine AW.midK [0, 1, 2, 7, 8, 9] (fun t => ∃ (b : Int), t = ⟨31, [(0, .ptr 0 0), (1, u k), (2, il V), (7, .ref 9001 0 j 2), (8, i j), (9, u b)], [(0, mkB m 1001 1002), (1001, rwB m.rows), (1002, vlB m.vals), (9001, ⟨80, false, fm tm l⟩)]⟩ ∧ b = (if j = 0 then 1 else k)) ?_ ?_
    · refine AW.cond rfl (fun e_ => ?_) (fun e_ => ?_)
      · skip
        repeat refine AW.seq ?_
        refine AW.reg ?_
        iterate 1 refine AOL.s1 (h := ?_)
        refine AOL.nil ?_
        exact ⟨_, rfl, (if_pos (by simp at e_; omega)).symm⟩
      · skip
        refine AW.skip ?_
        exact ⟨_, rfl, (if_neg (by simp at e_; omega)).symm⟩
    rintro t ⟨b, rfl, hb⟩
    have w1 : w64 b := by
      rw [hb]; split
      · exact ⟨by decide, by decide⟩
      · exact hk
    have ll : (fm tm l).length = j * 2 := by rw [fm_len tm_len, hl]
    have o1 : (j + 1) * 16 ≤ 140737488355328 := by omega
    have o3 : j ≤ 4611686018427387903 := by omega
    have o2 : j + 1 ≤ 4611686018427387904 := by omega
    have hb' : id (b = if j = 0 then 1 else k) := hb
    have hs' : id (l ++ sumS j k (z :: r) = sumS 0 k V) := hs
    clear hs hb hr
    repeat refine AW.seq ?_
    refine AW.reg ?_
    iterate 10 refine AOL.s1 (h := ?_)
    refine AOL.nil ?_
    repeat refine AW.seq ?_
    refine AW.let 1416 (h := ?_)
    refine AW.reg ?_
    iterate 3 refine AOL.s1 (h := ?_)
    refine AOL.nil ?_
    refine ⟨r.length, by simp, j + 1, l ++ [⟨z, b⟩], r, ?_, hr', hlt, rfl, by rw [List.length_append, hl]; rfl, ?_, ?_⟩
    · rw [fmt_snoc]; rfl
    · intro x hx
      rcases List.mem_append.1 hx with hx | hx
      · exact hlw x hx
      · simp only [List.mem_singleton] at hx; subst hx; exact w1
    · have e : b = if j = 0 then 1 else k := hb'
      rw [List.append_assoc, e]; exact hs'
  · obtain rfl := ends_nil hr (by simpa using c_)
    have hs' : l = sumS 0 k V := by simpa [sumS] using hs
    rw [← hs']
    clear hs hs'
    have hfl : AV.sl j (sub 0 (j * 2) (fm tm l)) = slF tm l := by rw [← hl, sub_all (by rw [fm_len tm_len]; exact Nat.le_refl _)]
    refine AW.fz 9001 rfl (fun h => by cases h) (h := ?_)
    rw [hfl]
    clear hfl
    have tl : tok l := ⟨by omega, hlw⟩
    clear hl
    repeat refine AW.seq ?_
    refine AW.exit ?_
    repeat (first | refine Kseq.ex ?_ | refine Kloop.ex ?_ | refine Kblock.miss (by decide) ?_)
    refine Kblock.hit ?_
    refine AW.kq [0, 7] (h := ?_)
    repeat refine AW.seq ?_
    refine AW.reg ?_
    iterate 2 refine AOL.s1 (h := ?_)
    refine AOL.callM (l := 0) (b := 1000) (gadget_Maker_Linear_c hm tl) rfl (by kernel_rfl) rfl rfl rfl rfl rfl (hst := by simp only [St.drops, St.drop, mapT, mapH, kill, kills, del, St.put, ins, reduceIte, Nat.reduceAdd, Nat.reduceLT, Nat.reduceEqDiff, Bool.false_eq_true]; exact rfl) ?_
    iterate 1 refine AOL.s1 (h := ?_)
    refine AOL.nil ?_
    refine AW.kq [6] (h := ?_)
    repeat refine AW.seq ?_
    refine AW.ret ?_
    refine ⟨_, mkOut (linM m l), rfl, ?_, ?_⟩
    · exact fun p hp => hp
    · exact Tells.self
set_option maxHeartbeats 16000000 in
theorem obollaw18_input_c {m : Mk} {k v o rh a : Int} {p : List Int} {ro si en an : Int} (o0 : Mok 900 m) (wk : w64 k) (wv : w64 v) (wo : w64 o) (wr : w64 rh) (ha : 0 ≤ a ∧ a < 9223372036854775808) (hp : wV p) (lp : p.length ≤ 16) : Fn Tryz.prog 12 [.ptr 0 0, .agg [u k, u v, u o, u rh, i a, ul p], i ro, i si, i en, i an] [(0, mkB m 1 2), (1, rwB m.rows), (2, vlB m.vals)] (Tells (i (freshM m k).vals.length) (mkOut (inpM m k v o rh a p p.length ro si en an))) := by
  refine Fn.enter Tryz.func12 Tryz.ntmps12 rfl (h := ?_)
  have tf := tfm
  have ot_ : (false || true) = true := rfl
  have tf1 := tfn
  have tfr := tfr
  have wa : w64 a := ⟨ha.1, by omega⟩
  have ea : IntKind.u64.wrap a = a := i64_o ha.1 ha.2
  obtain ⟨q1, h_q1⟩ : ∃ x, x = freshM m k := ⟨_, rfl⟩
  obtain ⟨v0, h_v0⟩ : ∃ x : Int, x = (m.vals.length : Int) := ⟨_, rfl⟩
  have c1 := gadget_Maker_Private_c (m := m) (x := k) (Mok.mono o0 (by decide)) wk
  rw [← h_q1, ← h_v0] at c1
  have o1 : Mok 899 q1 := by rw [h_q1]; exact Mok.fresh (Mok.mono o0 (by decide)) _
  replace h_q1 : id (q1 = freshM m k) := h_q1
  replace h_v0 : id (v0 = (m.vals.length : Int)) := h_v0
  obtain ⟨q2, h_q2⟩ : ∃ x, x = freshM q1 v := ⟨_, rfl⟩
  obtain ⟨v1, h_v1⟩ : ∃ x : Int, x = (q1.vals.length : Int) := ⟨_, rfl⟩
  have c2 := gadget_Maker_Private_c (m := q1) (x := v) (Mok.mono o1 (by decide)) wv
  rw [← h_q2, ← h_v1] at c2
  have o2 : Mok 898 q2 := by rw [h_q2]; exact Mok.fresh (Mok.mono o1 (by decide)) _
  replace h_q2 : id (q2 = freshM q1 v) := h_q2
  replace h_v1 : id (v1 = (q1.vals.length : Int)) := h_v1
  obtain ⟨q3, h_q3⟩ : ∃ x, x = freshM q2 o := ⟨_, rfl⟩
  obtain ⟨v2, h_v2⟩ : ∃ x : Int, x = (q2.vals.length : Int) := ⟨_, rfl⟩
  have c3 := gadget_Maker_Private_c (m := q2) (x := o) (Mok.mono o2 (by decide)) wo
  rw [← h_q3, ← h_v2] at c3
  have o3 : Mok 897 q3 := by rw [h_q3]; exact Mok.fresh (Mok.mono o2 (by decide)) _
  replace h_q3 : id (q3 = freshM q2 o) := h_q3
  replace h_v2 : id (v2 = (q2.vals.length : Int)) := h_v2
  obtain ⟨q4, h_q4⟩ : ∃ x, x = freshM q3 rh := ⟨_, rfl⟩
  obtain ⟨v3, h_v3⟩ : ∃ x : Int, x = (q3.vals.length : Int) := ⟨_, rfl⟩
  have c4 := gadget_Maker_Private_c (m := q3) (x := rh) (Mok.mono o3 (by decide)) wr
  rw [← h_q4, ← h_v3] at c4
  have o4 : Mok 896 q4 := by rw [h_q4]; exact Mok.fresh (Mok.mono o3 (by decide)) _
  replace h_q4 : id (q4 = freshM q3 rh) := h_q4
  replace h_v3 : id (v3 = (q3.vals.length : Int)) := h_v3
  obtain ⟨q5, h_q5⟩ : ∃ x, x = freshM q4 a := ⟨_, rfl⟩
  obtain ⟨v4, h_v4⟩ : ∃ x : Int, x = (q4.vals.length : Int) := ⟨_, rfl⟩
  have c5 := gadget_Maker_Private_c (m := q4) (x := a) (Mok.mono o4 (by decide)) wa
  rw [← h_q5, ← h_v4] at c5
  have o5 : Mok 895 q5 := by rw [h_q5]; exact Mok.fresh (Mok.mono o4 (by decide)) _
  replace h_q5 : id (q5 = freshM q4 a) := h_q5
  replace h_v4 : id (v4 = (q4.vals.length : Int)) := h_v4
  refine AW.mv 1 1001 (h := ?_)
  refine AW.mv 2 1002 (h := ?_)
  repeat refine AW.seq ?_
  refine AW.reg ?_
  iterate 2 refine AOL.s1 (h := ?_)
  refine AOL.nil ?_
  refine AW.kq [0, 2, 3, 4, 5, 7] (h := ?_)
  repeat refine AW.seq ?_
  refine AW.reg ?_
  iterate 3 refine AOL.s1 (h := ?_)
  refine AOL.callM (l := 0) (b := 1000) (c1) rfl (by kernel_rfl) rfl rfl rfl rfl rfl (hst := by simp only [St.drops, St.drop, mapT, mapH, kill, kills, del, St.put, ins, reduceIte, Nat.reduceAdd, Nat.reduceLT, Nat.reduceEqDiff, Bool.false_eq_true]; exact rfl) ?_
  iterate 1 refine AOL.s1 (h := ?_)
  refine AOL.nil ?_
  refine AW.kq [0, 2, 3, 4, 5, 7, 13] (h := ?_)
  repeat refine AW.seq ?_
  refine AW.reg ?_
  iterate 4 refine AOL.s1 (h := ?_)
  refine AOL.callM (l := 0) (b := 1000) (c2) rfl (by kernel_rfl) rfl rfl rfl rfl rfl (hst := by simp only [St.drops, St.drop, mapT, mapH, kill, kills, del, St.put, ins, reduceIte, Nat.reduceAdd, Nat.reduceLT, Nat.reduceEqDiff, Bool.false_eq_true]; exact rfl) ?_
  iterate 1 refine AOL.s1 (h := ?_)
  refine AOL.nil ?_
  refine AW.kq [0, 2, 3, 4, 5, 7, 13, 14] (h := ?_)
  repeat refine AW.seq ?_
  refine AW.reg ?_
  iterate 4 refine AOL.s1 (h := ?_)
  refine AOL.callM (l := 0) (b := 1000) (c3) rfl (by kernel_rfl) rfl rfl rfl rfl rfl (hst := by simp only [St.drops, St.drop, mapT, mapH, kill, kills, del, St.put, ins, reduceIte, Nat.reduceAdd, Nat.reduceLT, Nat.reduceEqDiff, Bool.false_eq_true]; exact rfl) ?_
  iterate 1 refine AOL.s1 (h := ?_)
  refine AOL.nil ?_
  refine AW.kq [0, 2, 3, 4, 5, 7, 13, 14, 15] (h := ?_)
  repeat refine AW.seq ?_
  refine AW.reg ?_
  iterate 4 refine AOL.s1 (h := ?_)
  refine AOL.callM (l := 0) (b := 1000) (c4) rfl (by kernel_rfl) rfl rfl rfl rfl rfl (hst := by simp only [St.drops, St.drop, mapT, mapH, kill, kills, del, St.put, ins, reduceIte, Nat.reduceAdd, Nat.reduceLT, Nat.reduceEqDiff, Bool.false_eq_true]; exact rfl) ?_
  iterate 1 refine AOL.s1 (h := ?_)
  refine AOL.nil ?_
  refine AW.kq [0, 2, 3, 4, 5, 7, 13, 14, 15, 16] (h := ?_)
  repeat refine AW.seq ?_
  refine AW.reg ?_
  iterate 4 refine AOL.s1 (h := ?_)
  refine AOL.callM (l := 0) (b := 1000) (c5) rfl (by kernel_rfl) rfl rfl rfl rfl rfl (hst := by simp only [St.drops, St.drop, mapT, mapH, kill, kills, del, St.put, ins, reduceIte, Nat.reduceAdd, Nat.reduceLT, Nat.reduceEqDiff, Bool.false_eq_true]; exact rfl) ?_
  iterate 1 refine AOL.s1 (h := ?_)
  refine AOL.nil ?_
  refine AW.kq [0, 2, 3, 4, 5, 7, 13, 14, 15, 16, 17] (h := ?_)
  repeat refine AW.seq ?_
  refine AW.reg ?_
  iterate 1 refine AOL.s1 (h := ?_)
  refine AOL.nil ?_
  refine AW.kq [0, 2, 3, 4, 5, 7, 13, 14, 15, 16, 17, 18] (h := ?_)
  repeat refine AW.seq ?_
  refine AW.reg ?_
  iterate 1 refine AOL.s1 (h := ?_)
  refine AOL.nil ?_
  refine AW.kq [0, 2, 3, 4, 5, 7, 13, 14, 15, 16, 17, 18, 19] (h := ?_)
  repeat refine AW.seq ?_
  refine AW.block ?_
  repeat refine AW.seq ?_
  refine AW.born 18 9003 3 1 (.inl rfl) (h := ?_)
  refine AW.loopK [0, 2, 3, 4, 5, 7, 13, 14, 15, 16, 17, 18, 19] (fun n' s => ∃ (j : Nat) (q : Mk) (l : List Int) (r : List Int), s = ⟨172, [(0, .ptr 0 0), (2, i ro), (3, i si), (4, i en), (5, i an), (7, .ptr 1112 0), (13, i v0), (14, i v1), (15, i v2), (16, i v3), (17, i v4), (18, .ref 9003 0 j 1), (19, i j)], [(0, mkB q 1001 1002), (1001, rwB q.rows), (1002, vlB q.vals), (1112, ⟨27, true, [u k, u v, u o, u rh, i a, ul p]⟩), (9003, ⟨3, false, fm i1 l⟩)]⟩ ∧ p.drop j = r ∧ j ≤ p.length ∧ n' = r.length ∧ l.length = j ∧ Mok (r.length + 879) q ∧ id (pthS r q l = pthS p q5 []) ∧ id (n' = n')) (p.length) ?_ ?_
  · exact ⟨0, q5, [], p, rfl, rfl, Nat.zero_le _, rfl, rfl, Mok.mono o5 (by omega), rfl, rfl⟩
  rintro n' s ⟨j, q, l, r, rfl, hr, hjl, rfl, hl, oq, hs, _⟩
  repeat refine AW.seq ?_
  refine AW.reg ?_
  iterate 5 refine AOL.s1 (h := ?_)
  refine AOL.nil ?_
  refine AW.kq [0, 2, 3, 4, 5, 7, 13, 14, 15, 16, 17, 18, 19, 62] (h := ?_)
  repeat refine AW.seq ?_
  refine AW.cond rfl (fun c_ => ?_) (fun c_ => ?_)
  · obtain ⟨z, r, rfl⟩ := ends_cons hr hjl (by simpa using c_)
    obtain ⟨hlt, hr', hz⟩ := dconsq hr
    have hw := incq hlt (by omega)
    have k0 : (0:Int) ≤ j := by omega
    have k1 : (j:Int) < p.length := by omega
    have hd1 : (fm u1 p).drop (j * 1) = u z :: fm u1 r := fm_drop u1_len hr
    have hd' : (fm u1 p).drop j = u z :: fm u1 r := by simpa using hd1
    clear hd1 hr
    have wz : w64 z := hp z (List.mem_of_getElem? hz)
    have ll : (fm i1 l).length = j := by rw [fm_len i1_len, Nat.mul_one, hl]
    have o1 : (j + 1) * 8 ≤ 140737488355328 := by omega
    have o3 : j ≤ 4611686018427387903 := by omega
    have o2 : j + 1 ≤ 4611686018427387904 := by omega
    have cq := gadget_Maker_Private_c (m := q) (x := z) (Mok.mono oq (by omega)) wz
    refine AW.skip ?_
    repeat refine AW.seq ?_
    refine AW.block ?_
    repeat refine AW.seq ?_
    refine AW.reg ?_
    iterate 7 refine AOL.s1 (h := ?_)
    refine AOL.callM (l := 0) (b := 1000) (cq) rfl (by kernel_rfl) rfl rfl rfl rfl rfl (hst := by simp only [St.drops, St.drop, mapT, mapH, kill, kills, del, St.put, ins, reduceIte, Nat.reduceAdd, Nat.reduceLT, Nat.reduceEqDiff, Bool.false_eq_true]; exact rfl) ?_
    iterate 3 refine AOL.s1 (h := ?_)
    refine AOL.nil ?_
    repeat refine AW.seq ?_
    refine AW.let 2168 (h := ?_)
    refine AW.reg ?_
    iterate 3 refine AOL.s1 (h := ?_)
    refine AOL.nil ?_
    refine ⟨r.length, by simp, j + 1, freshM q z, l ++ [(q.vals.length : Int)], r, ?_, hr', hlt, rfl, by rw [List.length_append, hl]; rfl, Mok.fresh (Mok.mono oq (by simp)) _, hs, rfl⟩
    rw [fmi_snoc]; rfl
  · obtain rfl := ends_nil hr (by simpa using c_)
    have hs' : pthS p q5 [] = (q, l) := by rw [← show _ = _ from hs]; rfl
    clear hs
    have lP : l.length = p.length := by
      have := pthS_len p q5 []
      rw [hs'] at this; simpa using this
    have jl : j = p.length := by omega
    subst jl
    have hfl : AV.sl p.length (sub 0 (p.length * 1) (fm i1 l)) = AV.sl p.length (fm i1 l) := by rw [← lP, sub_all (by rw [fm_len i1_len]; exact Nat.le_refl _)]
    refine AW.fz 9003 rfl (fun h => by cases h) (h := ?_)
    rw [hfl]
    clear hfl hl hr
    replace hs' : id (pthS p q5 [] = (q, l)) := hs'
    replace oq : Mok 879 q := Mok.mono oq (by omega)
    obtain ⟨q7, h_q7⟩ : ∃ x, x = linM q [⟨0, 1⟩] := ⟨_, rfl⟩
    obtain ⟨k1, h_k1⟩ : ∃ x : Int, x = (q.vals.length : Int) := ⟨_, rfl⟩
    have c7 := gadget_Maker_Linear_c (m := q) (L := [⟨0, 1⟩]) (Mok.mono oq (by decide)) (⟨by simp, fun t ht => by simp only [List.mem_singleton] at ht; subst ht; exact ⟨by decide, by decide⟩⟩)
    rw [← h_q7, ← h_k1] at c7
    have o7 : Mok 877 q7 := by rw [h_q7]; exact Mok.lin (Mok.mono oq (by decide)) _
    replace h_q7 : id (q7 = linM q [⟨0, 1⟩]) := h_q7
    replace h_k1 : id (k1 = (q.vals.length : Int)) := h_k1
    obtain ⟨q8, h_q8⟩ : ∃ x, x = twoM q7 v0 k1 := ⟨_, rfl⟩
    obtain ⟨hi, h_hi⟩ : ∃ x : Int, x = twoR q7 v0 k1 := ⟨_, rfl⟩
    have c8 := gadget_Maker_Two_c (m := q7) (a := v0) (b := k1) (Mok.mono o7 (by decide))
    rw [← h_q8, ← h_hi] at c8
    have o8 : Mok 863 q8 := by rw [h_q8]; exact twoM_ok (Mok.mono o7 (by decide)) _ _
    replace h_q8 : id (q8 = twoM q7 v0 k1) := h_q8
    replace h_hi : id (hi = twoR q7 v0 k1) := h_hi
    obtain ⟨q9, h_q9⟩ : ∃ x, x = linM q8 [⟨0, 2⟩] := ⟨_, rfl⟩
    obtain ⟨k2, h_k2⟩ : ∃ x : Int, x = (q8.vals.length : Int) := ⟨_, rfl⟩
    have c9 := gadget_Maker_Linear_c (m := q8) (L := [⟨0, 2⟩]) (Mok.mono o8 (by decide)) (⟨by simp, fun t ht => by simp only [List.mem_singleton] at ht; subst ht; exact ⟨by decide, by decide⟩⟩)
    rw [← h_q9, ← h_k2] at c9
    have o9 : Mok 861 q9 := by rw [h_q9]; exact Mok.lin (Mok.mono o8 (by decide)) _
    replace h_q9 : id (q9 = linM q8 [⟨0, 2⟩]) := h_q9
    replace h_k2 : id (k2 = (q8.vals.length : Int)) := h_k2
    obtain ⟨q10, h_q10⟩ : ∃ x, x = twoM q9 v0 k2 := ⟨_, rfl⟩
    obtain ⟨ow, h_ow⟩ : ∃ x : Int, x = twoR q9 v0 k2 := ⟨_, rfl⟩
    have c10 := gadget_Maker_Two_c (m := q9) (a := v0) (b := k2) (Mok.mono o9 (by decide))
    rw [← h_q10, ← h_ow] at c10
    have o10 : Mok 847 q10 := by rw [h_q10]; exact twoM_ok (Mok.mono o9 (by decide)) _ _
    replace h_q10 : id (q10 = twoM q9 v0 k2) := h_q10
    replace h_ow : id (ow = twoR q9 v0 k2) := h_ow
    obtain ⟨q11, h_q11⟩ : ∃ x, x = sameM q10 ow v2 := ⟨_, rfl⟩
    have c11 := gadget_Maker_Same_c (m := q10) (a := ow) (b := v2) (Mok.mono o10 (by decide))
    rw [← h_q11] at c11
    have o11 : Mok 846 q11 := by rw [h_q11]; exact Mok.row (Mok.mono o10 (by decide)) _ _ _
    replace h_q11 : id (q11 = sameM q10 ow v2) := h_q11
    obtain ⟨q12, h_q12⟩ : ∃ x, x = (manE q11 [v1, v2, v3]).1 := ⟨_, rfl⟩
    obtain ⟨h12, h_h12⟩ : ∃ x : Int, x = (manE q11 [v1, v2, v3]).2 := ⟨_, rfl⟩
    have c12 := gadget_Maker_Many_c (m := q11) (V := [v1, v2, v3]) (Mok.mono o11 (by simp))
    rw [← h_q12, ← h_h12] at c12
    have o12 : Mok 802 q12 := by rw [h_q12]; exact manE_ok (Mok.mono o11 (by simp))
    replace h_q12 : id (q12 = (manE q11 [v1, v2, v3]).1) := h_q12
    replace h_h12 : id (h12 = (manE q11 [v1, v2, v3]).2) := h_h12
    obtain ⟨q13, h_q13⟩ : ∃ x, x = bitM q12 v4 p.length := ⟨_, rfl⟩
    have c13 := gadget_Maker_Bits_c (m := q12) (a := v4) (n := p.length) (Mok.mono o12 (by decide))
    rw [← h_q13] at c13
    have o13 : Mok 685 q13 := by rw [h_q13]; exact bitM_ok (Mok.mono o12 (by decide)) _ _
    replace h_q13 : id (q13 = bitM q12 v4 p.length) := h_q13
    obtain ⟨bs0, h_bs0⟩ : ∃ x, x = (bitE q12 v4 p.length).2.1 := ⟨_, rfl⟩
    rw [← h_bs0] at c13
    have lB : bs0.length = p.length := by
      rw [h_bs0]
      have := bitS_len (isM q12.vals v4) (bitN p.length) 0 q12 [] []
      have e : bitN p.length = p.length := by
        have h : bitN (p.length : Int) = (p.length : Int).toNat := if_neg (by omega)
        rw [h]; omega
      show (bitS (isM q12.vals v4) (bitN p.length) 0 q12 [] []).2.1.length = _
      rw [e] at this ⊢; simpa using this
    replace h_bs0 : id (bs0 = (bitE q12 v4 p.length).2.1) := h_bs0
    rw [show il bs0 = AV.sl p.length (fm i1 bs0) by rw [← lB]] at c13
    repeat refine AW.seq ?_
    refine AW.exit ?_
    repeat (first | refine Kseq.ex ?_ | refine Kloop.ex ?_ | refine Kblock.miss (by decide) ?_)
    refine Kblock.hit ?_
    refine AW.kq [0, 2, 3, 4, 5, 13, 14, 15, 16, 17, 18] (h := ?_)
    repeat refine AW.seq ?_
    refine AW.reg ?_
    iterate 3 refine AOL.s1 (h := ?_)
    refine AOL.fz 2232 rfl (fun h => by cases h) (h := ?_)
    refine AOL.callM (l := 0) (b := 1000) (c7) rfl (by kernel_rfl) rfl rfl rfl rfl rfl (hst := by simp only [St.drops, St.drop, mapT, mapH, kill, kills, del, St.put, ins, reduceIte, Nat.reduceAdd, Nat.reduceLT, Nat.reduceEqDiff, Bool.false_eq_true]; exact rfl) ?_
    iterate 1 refine AOL.s1 (h := ?_)
    refine AOL.nil ?_
    refine AW.kq [0, 2, 3, 4, 5, 13, 14, 15, 16, 17, 18, 20] (h := ?_)
    repeat refine AW.seq ?_
    refine AW.reg ?_
    iterate 3 refine AOL.s1 (h := ?_)
    refine AOL.callM (l := 0) (b := 1000) (c8) rfl (by kernel_rfl) rfl rfl rfl rfl rfl (hst := by simp only [St.drops, St.drop, mapT, mapH, kill, kills, del, St.put, ins, reduceIte, Nat.reduceAdd, Nat.reduceLT, Nat.reduceEqDiff, Bool.false_eq_true]; exact rfl) ?_
    iterate 1 refine AOL.s1 (h := ?_)
    refine AOL.nil ?_
    refine AW.kq [0, 2, 3, 4, 5, 13, 14, 15, 16, 17, 18, 21] (h := ?_)
    repeat refine AW.seq ?_
    refine AW.reg ?_
    iterate 3 refine AOL.s1 (h := ?_)
    refine AOL.fz 2360 rfl (fun h => by cases h) (h := ?_)
    refine AOL.callM (l := 0) (b := 1000) (c9) rfl (by kernel_rfl) rfl rfl rfl rfl rfl (hst := by simp only [St.drops, St.drop, mapT, mapH, kill, kills, del, St.put, ins, reduceIte, Nat.reduceAdd, Nat.reduceLT, Nat.reduceEqDiff, Bool.false_eq_true]; exact rfl) ?_
    iterate 1 refine AOL.s1 (h := ?_)
    refine AOL.nil ?_
    refine AW.kq [0, 2, 3, 4, 5, 13, 14, 15, 16, 17, 18, 21, 22] (h := ?_)
    repeat refine AW.seq ?_
    refine AW.reg ?_
    iterate 3 refine AOL.s1 (h := ?_)
    refine AOL.callM (l := 0) (b := 1000) (c10) rfl (by kernel_rfl) rfl rfl rfl rfl rfl (hst := by simp only [St.drops, St.drop, mapT, mapH, kill, kills, del, St.put, ins, reduceIte, Nat.reduceAdd, Nat.reduceLT, Nat.reduceEqDiff, Bool.false_eq_true]; exact rfl) ?_
    iterate 1 refine AOL.s1 (h := ?_)
    refine AOL.nil ?_
    refine AW.kq [0, 2, 3, 4, 5, 14, 15, 16, 17, 18, 21, 23] (h := ?_)
    repeat refine AW.seq ?_
    refine AW.reg ?_
    iterate 3 refine AOL.s1 (h := ?_)
    refine AOL.callM (l := 0) (b := 1000) (c11) rfl (by kernel_rfl) rfl rfl rfl rfl rfl (hst := by simp only [St.drops, St.drop, mapT, mapH, kill, kills, del, St.put, ins, reduceIte, Nat.reduceAdd, Nat.reduceLT, Nat.reduceEqDiff, Bool.false_eq_true]; exact rfl) ?_
    refine AOL.nil ?_
    refine AW.kq [0, 2, 3, 4, 5, 14, 15, 16, 17, 18, 21] (h := ?_)
    repeat refine AW.seq ?_
    refine AW.reg ?_
    iterate 5 refine AOL.s1 (h := ?_)
    refine AOL.fz 2584 rfl (fun h => by cases h) (h := ?_)
    refine AOL.callM (l := 0) (b := 1000) (c12) rfl (by kernel_rfl) rfl rfl rfl rfl rfl (hst := by simp only [St.drops, St.drop, mapT, mapH, kill, kills, del, St.put, ins, reduceIte, Nat.reduceAdd, Nat.reduceLT, Nat.reduceEqDiff, Bool.false_eq_true]; exact rfl) ?_
    iterate 1 refine AOL.s1 (h := ?_)
    refine AOL.nil ?_
    refine AW.kq [0, 2, 3, 4, 5, 14, 16, 17, 18, 21, 24] (h := ?_)
    repeat refine AW.seq ?_
    refine AW.reg ?_
    iterate 4 refine AOL.s1 (h := ?_)
    refine AOL.callM (l := 0) (b := 1000) (c13) rfl (by kernel_rfl) rfl rfl rfl rfl rfl (hst := by simp only [St.drops, St.drop, mapT, mapH, kill, kills, del, St.put, ins, reduceIte, Nat.reduceAdd, Nat.reduceLT, Nat.reduceEqDiff, Bool.false_eq_true]; exact rfl) ?_
    iterate 1 refine AOL.s1 (h := ?_)
    refine AOL.nil ?_
    refine AW.kq [0, 2, 3, 4, 5, 14, 16, 17, 18, 21, 24, 25] (h := ?_)
    repeat refine AW.seq ?_
    refine AW.reg ?_
    iterate 1 refine AOL.s1 (h := ?_)
    refine AOL.nil ?_
    refine AW.kq [0, 2, 3, 4, 5, 14, 16, 17, 18, 21, 24, 25, 26] (h := ?_)
    repeat refine AW.seq ?_
    refine AW.block ?_
    repeat refine AW.seq ?_
    refine AW.loopK [0, 2, 3, 4, 5, 14, 16, 17, 18, 21, 24, 25, 26] (fun n' s => ∃ (j : Nat) (g : Mk) (h : Int) (bs ps : List Int), s = ⟨172, [(0, .ptr 0 0), (2, i ro), (3, i si), (4, i en), (5, i an), (14, i v1), (16, i v3), (17, i v4), (18, .sl p.length (fm i1 l)), (21, i hi), (24, i h), (25, .sl p.length (fm i1 bs0)), (26, i j)], [(0, mkB g 1001 1002), (1001, rwB g.rows), (1002, vlB g.vals), (1112, ⟨27, true, [u k, u v, u o, u rh, i a, ul p]⟩)]⟩ ∧ bs0.drop j = bs ∧ l.drop j = ps ∧ j ≤ l.length ∧ n' = ps.length ∧ Mok (18 * ps.length + 397) g ∧ id (clmS bs ps g h = clmS bs0 l q13 h12) ∧ id (n' = n')) (p.length) ?_ ?_
    · exact ⟨0, q13, h12, bs0, l, rfl, rfl, rfl, Nat.zero_le _, lP.symm, Mok.mono o13 (by omega), rfl, rfl⟩
    rintro n' s ⟨j, g, h, bs, ps, rfl, hb, hr, hjl, rfl, og, hs, _⟩
    repeat refine AW.seq ?_
    refine AW.reg ?_
    iterate 4 refine AOL.s1 (h := ?_)
    refine AOL.nil ?_
    refine AW.kq [0, 2, 3, 4, 5, 14, 16, 17, 18, 21, 24, 25, 26, 109] (h := ?_)
    repeat refine AW.seq ?_
    refine AW.cond rfl (fun d_ => ?_) (fun d_ => ?_)
    · obtain ⟨z, ps, rfl⟩ := ends_cons hr hjl (by rw [lP]; simpa using d_)
      obtain ⟨hlt, hr', hz⟩ := dconsq hr
      obtain ⟨y, bs, rfl⟩ := ends_cons hb (by omega) (by rw [lB]; simpa using d_)
      obtain ⟨hlb, hb', hy⟩ := dconsq hb
      have hw := incq hlt (by omega)
      have k0 : (0:Int) ≤ j := by omega
      have k1' : (j:Int) < p.length := by omega
      have hd1 : (fm i1 l).drop (j * 1) = i z :: fm i1 ps := fm_drop i1_len hr
      have hd' : (fm i1 l).drop j = i z :: fm i1 ps := by simpa using hd1
      have he1 : (fm i1 bs0).drop (j * 1) = i y :: fm i1 bs := fm_drop i1_len hb
      have he' : (fm i1 bs0).drop j = i y :: fm i1 bs := by simpa using he1
      clear hd1 he1 hr hb
      have ca := gadget_Maker_Choose_c (m := g) (c := y) (a := z) (b := h) (Mok.mono og (by rw [List.length_cons]; omega))
      have cb := gadget_Maker_Choose_c (m := choM g y z h) (c := y) (a := h) (b := z) (Mok.cho (Mok.mono og (by rw [List.length_cons]; omega)) _ _ _)
      have oc : Mok (14 + (18 * ps.length + 397)) (choM (choM g y z h) y h z) := Mok.cho (Mok.cho (Mok.mono og (by rw [List.length_cons]; omega)) _ _ _) _ _ _
      have cc := gadget_Maker_Two_c (m := choM (choM g y z h) y h z) (a := g.vals.length) (b := (choM g y z h).vals.length) (Mok.mono oc (by omega))
      refine AW.skip ?_
      repeat refine AW.seq ?_
      refine AW.block ?_
      repeat refine AW.seq ?_
      refine AW.drw 10 [] (by kernel_rfl) (h := ?_)
      iterate 10 refine ADL.dm 1 (h := ?_)
      refine ADL.done hmix rfl rfl (hT := ?_)
      refine AOL.callM (l := 0) (b := 1000) (ca) rfl (by kernel_rfl) rfl rfl rfl rfl rfl (hst := by simp only [St.drops, St.drop, mapT, mapH, kill, kills, del, St.put, ins, reduceIte, Nat.reduceAdd, Nat.reduceLT, Nat.reduceEqDiff, Bool.false_eq_true]; exact rfl) ?_
      iterate 1 refine AOL.s1 (h := ?_)
      refine AOL.nil ?_
      refine AW.kq [0, 2, 3, 4, 5, 14, 16, 17, 18, 21, 24, 25, 26, 27] (h := ?_)
      repeat refine AW.seq ?_
      refine AW.drw 10 [] (by kernel_rfl) (h := ?_)
      iterate 10 refine ADL.dm 1 (h := ?_)
      refine ADL.done hmix rfl rfl (hT := ?_)
      refine AOL.callM (l := 0) (b := 1000) (cb) rfl (by kernel_rfl) rfl rfl rfl rfl rfl (hst := by simp only [St.drops, St.drop, mapT, mapH, kill, kills, del, St.put, ins, reduceIte, Nat.reduceAdd, Nat.reduceLT, Nat.reduceEqDiff, Bool.false_eq_true]; exact rfl) ?_
      iterate 1 refine AOL.s1 (h := ?_)
      refine AOL.nil ?_
      refine AW.kq [0, 2, 3, 4, 5, 14, 16, 17, 18, 21, 25, 26, 27, 28] (h := ?_)
      repeat refine AW.seq ?_
      refine AW.reg ?_
      iterate 3 refine AOL.s1 (h := ?_)
      refine AOL.callM (l := 0) (b := 1000) (cc) rfl (by kernel_rfl) rfl rfl rfl rfl rfl (hst := by simp only [St.drops, St.drop, mapT, mapH, kill, kills, del, St.put, ins, reduceIte, Nat.reduceAdd, Nat.reduceLT, Nat.reduceEqDiff, Bool.false_eq_true]; exact rfl) ?_
      iterate 1 refine AOL.s1 (h := ?_)
      refine AOL.nil ?_
      repeat refine AW.seq ?_
      refine AW.reg ?_
      iterate 3 refine AOL.s1 (h := ?_)
      refine AOL.nil ?_
      exact ⟨ps.length, by simp, j + 1, twoM (choM (choM g y z h) y h z) g.vals.length (choM g y z h).vals.length, twoR (choM (choM g y z h) y h z) g.vals.length (choM g y z h).vals.length, bs, ps, rfl, hb', hr', hlt, rfl, twoM_ok oc _ _, hs, rfl⟩
    · obtain rfl := ends_nil hr (by rw [lP]; simpa using d_)
      have hs14 : id (clmS bs0 l q13 h12 = (g, h)) := by rw [← show _ = _ from hs]; cases bs <;> rfl
      clear hs hb hr
      replace og : Mok 397 g := Mok.mono og (by omega)
      obtain ⟨q15, h_q15⟩ : ∃ x, x = linM g (sumS 0 288230376287764480 [h, ro]) := ⟨_, rfl⟩
      obtain ⟨k3, h_k3⟩ : ∃ x : Int, x = (g.vals.length : Int) := ⟨_, rfl⟩
      have c15 := obollaw18_linear_c (m := g) (k := 288230376287764480) (V := [h, ro]) (Mok.mono og (by decide)) w64_m1 (by simp)
      rw [← h_q15, ← h_k3] at c15
      have o15 : Mok 395 q15 := by rw [h_q15]; exact Mok.lin (Mok.mono og (by decide)) _
      replace h_q15 : id (q15 = linM g (sumS 0 288230376287764480 [h, ro])) := h_q15
      replace h_k3 : id (k3 = (g.vals.length : Int)) := h_k3
      obtain ⟨q16, h_q16⟩ : ∃ x, x = mulM q15 v1 k3 := ⟨_, rfl⟩
      obtain ⟨off, h_off⟩ : ∃ x : Int, x = (q15.vals.length : Int) := ⟨_, rfl⟩
      have c16 := gadget_Maker_Mul_c (m := q15) (a := v1) (b := k3) (Mok.mono o15 (by decide))
      rw [← h_q16, ← h_off] at c16
      have o16 : Mok 393 q16 := by rw [h_q16]; exact Mok.prod (Mok.mono o15 (by decide)) _ _
      replace h_q16 : id (q16 = mulM q15 v1 k3) := h_q16
      replace h_off : id (off = (q15.vals.length : Int)) := h_off
      obtain ⟨q17, h_q17⟩ : ∃ x, x = linM q16 [] := ⟨_, rfl⟩
      obtain ⟨k4, h_k4⟩ : ∃ x : Int, x = (q16.vals.length : Int) := ⟨_, rfl⟩
      have c17 := lin_nil (m := q16) (Mok.mono o16 (by decide))
      rw [← h_q17, ← h_k4] at c17
      have o17 : Mok 391 q17 := by rw [h_q17]; exact Mok.lin (Mok.mono o16 (by decide)) _
      replace h_q17 : id (q17 = linM q16 []) := h_q17
      replace h_k4 : id (k4 = (q16.vals.length : Int)) := h_k4
      obtain ⟨q18, h_q18⟩ : ∃ x, x = sameM q17 off k4 := ⟨_, rfl⟩
      have c18 := gadget_Maker_Same_c (m := q17) (a := off) (b := k4) (Mok.mono o17 (by decide))
      rw [← h_q18] at c18
      have o18 : Mok 390 q18 := by rw [h_q18]; exact Mok.row (Mok.mono o17 (by decide)) _ _ _
      replace h_q18 : id (q18 = sameM q17 off k4) := h_q18
      obtain ⟨q19, h_q19⟩ : ∃ x, x = (manE q18 [hi, v3, v4]).1 := ⟨_, rfl⟩
      obtain ⟨h19, h_h19⟩ : ∃ x : Int, x = (manE q18 [hi, v3, v4]).2 := ⟨_, rfl⟩
      have c19 := gadget_Maker_Many_c (m := q18) (V := [hi, v3, v4]) (Mok.mono o18 (by simp))
      rw [← h_q19, ← h_h19] at c19
      have o19 : Mok 346 q19 := by rw [h_q19]; exact manE_ok (Mok.mono o18 (by simp))
      replace h_q19 : id (q19 = (manE q18 [hi, v3, v4]).1) := h_q19
      replace h_h19 : id (h19 = (manE q18 [hi, v3, v4]).2) := h_h19
      obtain ⟨q20, h_q20⟩ : ∃ x, x = sameM q19 h19 en := ⟨_, rfl⟩
      have c20 := gadget_Maker_Same_c (m := q19) (a := h19) (b := en) (Mok.mono o19 (by decide))
      rw [← h_q20] at c20
      have o20 : Mok 345 q20 := by rw [h_q20]; exact Mok.row (Mok.mono o19 (by decide)) _ _ _
      replace h_q20 : id (q20 = sameM q19 h19 en) := h_q20
      obtain ⟨q21, h_q21⟩ : ∃ x, x = twoM q20 hi si := ⟨_, rfl⟩
      obtain ⟨an1, h_an1⟩ : ∃ x : Int, x = twoR q20 hi si := ⟨_, rfl⟩
      have c21 := gadget_Maker_Two_c (m := q20) (a := hi) (b := si) (Mok.mono o20 (by decide))
      rw [← h_q21, ← h_an1] at c21
      have o21 : Mok 331 q21 := by rw [h_q21]; exact twoM_ok (Mok.mono o20 (by decide)) _ _
      replace h_q21 : id (q21 = twoM q20 hi si) := h_q21
      replace h_an1 : id (an1 = twoR q20 hi si) := h_an1
      obtain ⟨q22, h_q22⟩ : ∃ x, x = sameM q21 an1 an := ⟨_, rfl⟩
      have c22 := gadget_Maker_Same_c (m := q21) (a := an1) (b := an) (Mok.mono o21 (by decide))
      rw [← h_q22] at c22
      have o22 : Mok 330 q22 := by rw [h_q22]; exact Mok.row (Mok.mono o21 (by decide)) _ _ _
      replace h_q22 : id (q22 = sameM q21 an1 an) := h_q22
      repeat refine AW.seq ?_
      refine AW.exit ?_
      repeat (first | refine Kseq.ex ?_ | refine Kloop.ex ?_ | refine Kblock.miss (by decide) ?_)
      refine Kblock.hit ?_
      refine AW.kq [0, 2, 3, 4, 5, 14, 16, 17, 21, 24] (h := ?_)
      repeat refine AW.seq ?_
      refine AW.reg ?_
      iterate 4 refine AOL.s1 (h := ?_)
      refine AOL.fz 3256 rfl (fun h => by cases h) (h := ?_)
      refine AOL.callM (l := 0) (b := 1000) (c15) rfl (by kernel_rfl) rfl rfl rfl rfl rfl (hst := by simp only [St.drops, St.drop, mapT, mapH, kill, kills, del, St.put, ins, reduceIte, Nat.reduceAdd, Nat.reduceLT, Nat.reduceEqDiff, Bool.false_eq_true]; exact rfl) ?_
      iterate 1 refine AOL.s1 (h := ?_)
      refine AOL.nil ?_
      refine AW.kq [0, 3, 4, 5, 14, 16, 17, 21, 29] (h := ?_)
      repeat refine AW.seq ?_
      refine AW.reg ?_
      iterate 3 refine AOL.s1 (h := ?_)
      refine AOL.callM (l := 0) (b := 1000) (c16) rfl (by kernel_rfl) rfl rfl rfl rfl rfl (hst := by simp only [St.drops, St.drop, mapT, mapH, kill, kills, del, St.put, ins, reduceIte, Nat.reduceAdd, Nat.reduceLT, Nat.reduceEqDiff, Bool.false_eq_true]; exact rfl) ?_
      iterate 1 refine AOL.s1 (h := ?_)
      refine AOL.nil ?_
      refine AW.kq [0, 3, 4, 5, 14, 16, 17, 21, 30] (h := ?_)
      repeat refine AW.seq ?_
      refine AW.reg ?_
      iterate 1 refine AOL.s1 (h := ?_)
      refine AOL.callM (l := 0) (b := 1000) (c17) rfl (by kernel_rfl) rfl rfl rfl rfl rfl (hst := by simp only [St.drops, St.drop, mapT, mapH, kill, kills, del, St.put, ins, reduceIte, Nat.reduceAdd, Nat.reduceLT, Nat.reduceEqDiff, Bool.false_eq_true]; exact rfl) ?_
      iterate 1 refine AOL.s1 (h := ?_)
      refine AOL.nil ?_
      refine AW.kq [0, 3, 4, 5, 14, 16, 17, 21, 30, 31] (h := ?_)
      repeat refine AW.seq ?_
      refine AW.reg ?_
      iterate 3 refine AOL.s1 (h := ?_)
      refine AOL.callM (l := 0) (b := 1000) (c18) rfl (by kernel_rfl) rfl rfl rfl rfl rfl (hst := by simp only [St.drops, St.drop, mapT, mapH, kill, kills, del, St.put, ins, reduceIte, Nat.reduceAdd, Nat.reduceLT, Nat.reduceEqDiff, Bool.false_eq_true]; exact rfl) ?_
      refine AOL.nil ?_
      refine AW.kq [0, 3, 4, 5, 14, 16, 17, 21] (h := ?_)
      repeat refine AW.seq ?_
      refine AW.reg ?_
      iterate 5 refine AOL.s1 (h := ?_)
      refine AOL.fz 3512 rfl (fun h => by cases h) (h := ?_)
      refine AOL.callM (l := 0) (b := 1000) (c19) rfl (by kernel_rfl) rfl rfl rfl rfl rfl (hst := by simp only [St.drops, St.drop, mapT, mapH, kill, kills, del, St.put, ins, reduceIte, Nat.reduceAdd, Nat.reduceLT, Nat.reduceEqDiff, Bool.false_eq_true]; exact rfl) ?_
      iterate 1 refine AOL.s1 (h := ?_)
      refine AOL.nil ?_
      refine AW.kq [0, 3, 4, 5, 14, 21, 32] (h := ?_)
      repeat refine AW.seq ?_
      refine AW.reg ?_
      iterate 3 refine AOL.s1 (h := ?_)
      refine AOL.callM (l := 0) (b := 1000) (c20) rfl (by kernel_rfl) rfl rfl rfl rfl rfl (hst := by simp only [St.drops, St.drop, mapT, mapH, kill, kills, del, St.put, ins, reduceIte, Nat.reduceAdd, Nat.reduceLT, Nat.reduceEqDiff, Bool.false_eq_true]; exact rfl) ?_
      refine AOL.nil ?_
      refine AW.kq [0, 3, 5, 14, 21] (h := ?_)
      repeat refine AW.seq ?_
      refine AW.reg ?_
      iterate 3 refine AOL.s1 (h := ?_)
      refine AOL.callM (l := 0) (b := 1000) (c21) rfl (by kernel_rfl) rfl rfl rfl rfl rfl (hst := by simp only [St.drops, St.drop, mapT, mapH, kill, kills, del, St.put, ins, reduceIte, Nat.reduceAdd, Nat.reduceLT, Nat.reduceEqDiff, Bool.false_eq_true]; exact rfl) ?_
      iterate 1 refine AOL.s1 (h := ?_)
      refine AOL.nil ?_
      refine AW.kq [0, 5, 14, 33] (h := ?_)
      repeat refine AW.seq ?_
      refine AW.reg ?_
      iterate 3 refine AOL.s1 (h := ?_)
      refine AOL.callM (l := 0) (b := 1000) (c22) rfl (by kernel_rfl) rfl rfl rfl rfl rfl (hst := by simp only [St.drops, St.drop, mapT, mapH, kill, kills, del, St.put, ins, reduceIte, Nat.reduceAdd, Nat.reduceLT, Nat.reduceEqDiff, Bool.false_eq_true]; exact rfl) ?_
      refine AOL.nil ?_
      refine AW.kq [14] (h := ?_)
      repeat refine AW.seq ?_
      refine AW.reg ?_
      iterate 2 refine AOL.s1 (h := ?_)
      refine AOL.nil ?_
      refine AW.kq [12] (h := ?_)
      repeat refine AW.seq ?_
      have eI : inpM m k v o rh a p p.length ro si en an = q22 := by
        simp only [id] at *
        unfold inpM
        subst h_q1 h_q2 h_q3 h_q4 h_q5
        simp only [hs']
        subst h_v0 h_v1 h_v2 h_v3 h_v4 h_k1 h_q7 h_hi h_q8 h_k2 h_q9 h_ow h_q10 h_q11 h_q12 h_h12 h_bs0 h_q13
        simp only [hs14]
        subst h_q15 h_k3 h_q16 h_off h_q17 h_k4 h_q18 h_q19 h_h19 h_q20 h_q21 h_an1 h_q22
        rfl
      rw [eI, ← show q1 = _ from h_q1, ← show v1 = _ from h_v1]
      refine AW.ret ?_
      refine ⟨_, mkOut q22, rfl, ?_, ?_⟩
      · exact fun x hx => List.mem_append_left [(1112, _)] hx
      · exact Tells.self
end Go.Proofs.YtngphcdhdllnnaaGreat.E.M
end
section
/- circuit.fits: whether a move fits a depth: a contract over E. -/
set_option linter.unusedVariables false
set_option linter.unusedSimpArgs false
set_option maxRecDepth 10000
open Go Go.Proofs.YtngphcdhdllnnaaGreat.E Go.Proofs
namespace Go.Proofs.YtngphcdhdllnnaaGreat.E.M
theorem circuit_fits_1_c {n : Int} (hn : w64 n) : Fn Tryz.prog 71 [u n] [] (fun r _ => r = bo (decide (n ≥ 288230376287764481))) := by
  refine Fn.enter Tryz.func71 Tryz.ntmps71 rfl (h := ?_)
  have tf := tfr
  repeat refine AW.seq ?_
  refine AW.reg ?_
  iterate 1 refine AOL.s1 (h := ?_)
  refine AOL.nil ?_
  refine AW.kq [0] (h := ?_)
  repeat refine AW.seq ?_
  refine AW.reg ?_
  iterate 3 refine AOL.s1 (h := ?_)
  refine AOL.nil ?_
  refine AW.kq [2] (h := ?_)
  repeat refine AW.seq ?_
  refine AW.ret ?_
  refine ⟨_, [], rfl, HOk.nil _, ?_⟩
  rfl
theorem any_bw (L : List Int) : (!(L.any fun v => decide (v ≥ 288230376287764481))) = L.all bw := by
  induction L with
  | nil => rfl
  | cons a r ih =>
    rw [List.any_cons, List.all_cons, Bool.not_or, ih]
    congr 1
    unfold bw
    rw [← decide_not]
    exact decide_eq_decide.2 (by omega)
set_option maxHeartbeats 16000000 in
theorem circuit_fits_c {m : Mv} {d : Int} (hm : wM m) : Fn Tryz.prog 54 [.agg (mvc m), i d] [] (fun r _ => r = bo (fitsH m d)) := by
  obtain ⟨mr, mi, mo, ms, ⟨xk, ⟨xv, xo, xr⟩, xa, xp⟩, ⟨yk, ⟨yv, yo, yr⟩, ya, yp⟩, ⟨pv, po, pr⟩, ⟨qv, qo, qr⟩⟩ := m
  obtain ⟨w1, w2, w3, w4, ⟨x1, ⟨x2, x3, x4⟩, x5, x6, x7⟩, ⟨y1, ⟨y2, y3, y4⟩, y5, y6, y7⟩, ⟨p1, p2, p3⟩, ⟨q1, q2, q3⟩⟩ := hm
  simp only at w1 w2 w3 w4 x1 x2 x3 x4 x5 x6 x7 y1 y2 y3 y4 y5 y6 y7 p1 p2 p3 q1 q2 q3
  have n0 : Int.toNat 0 = 0 := rfl
  have n1 : Int.toNat 1 = 1 := rfl
  have q0 : (0:Int) ≤ 0 := by decide
  have q1' : (0:Int) ≤ 1 := by decide
  have x02 : (0:Int) < ((2:Nat):Int) := by decide
  have x12 : (1:Int) < ((2:Nat):Int) := by decide
  have z02 : (0:Int) < 2 := by decide
  have z12 : (1:Int) < 2 := by decide
  have a1 : IntKind.i64.wrap (0 + 1) = 1 := by decide
  have a2 : IntKind.i64.wrap (1 + 1) = 2 := by decide
  have i02 : decide ((0:Int) < 2) = true := rfl
  have i12 : decide ((1:Int) < 2) = true := rfl
  have i22 : decide ((2:Int) < 2) = false := rfl
  show Fn Tryz.prog 54 [.agg [u mr, u mi, u mo, u ms, u xk, u xv, u xo, u xr, i xa, ul xp, u yk, u yv, u yo, u yr, i ya, ul yp, u pv, u po, u pr, u qv, u qo, u qr], i d] [] _
  refine Fn.enter Tryz.func54 Tryz.ntmps54 rfl (h := ?_)
  have tf := tfv
  have tfr := tfr
  have ot_ : (false || true) = true := rfl
  repeat refine AW.seq ?_
  refine AW.reg ?_
  iterate 2 refine AOL.s1 (h := ?_)
  refine AOL.nil ?_
  refine AW.kq [1, 2] (h := ?_)
  repeat refine AW.seq ?_
  refine AW.reg ?_
  iterate 3 refine AOL.s1 (h := ?_)
  refine AOL.kq [1, 2, 12] (h := ?_)
  refine AOL.or 12 15 (os' := ?_) (x := ?_) (h1 := ?_) (h0 := ?_) (h := ?_)
  rotate_left 2
  iterate 2
    · intro hb_ K' hK; (iterate 3 refine AOL.s1 (h := ?_)); refine AOL.kq [1, 2, 15] (h := ?_); exact hK
  refine AOL.nil ?_
  refine AW.kq [1, 2, 15] (h := ?_)
  repeat refine AW.seq ?_
  refine AW.cond rfl (fun c0 => ?_) (fun c0 => ?_)
  · have e : decide (1 ≤ d ∧ d ≤ 16) = false := decide_eq_false (by simp at c0; omega)
    repeat refine AW.seq ?_
    refine AW.reg ?_
    iterate 1 refine AOL.s1 (h := ?_)
    refine AOL.nil ?_
    refine AW.kq [4] (h := ?_)
    repeat refine AW.seq ?_
    refine AW.ret ?_
    refine ⟨_, [], rfl, HOk.nil _, ?_⟩
    simp only [one?, fitsH, hdF, e, Bool.false_and]
  have hd0 : 1 ≤ d ∧ d ≤ 16 := by simp at c0; omega
  obtain ⟨dn, rfl⟩ : ∃ n : Nat, d = n := ⟨d.toNat, by omega⟩
  have hd1 : 1 ≤ dn ∧ dn ≤ 16 := by omega
  have hdt : id (decide (1 ≤ (dn:Int) ∧ (dn:Int) ≤ 16) = true) := decide_eq_true hd0
  clear c0 hd0
  have s1 := shl_k (k := 1) (l := dn) (by omega) (by
    have : 2 ^ dn ≤ 2 ^ 16 := Nat.pow_le_pow_right (by decide) (by omega)
    omega)
  have s2 : ((1:Nat):Int) = 1 := rfl
  rw [s2] at s1
  have s0 : ¬ (dn:Int) < 0 := by omega
  have s3 : ((1 * 2 ^ dn : Nat) : Int) = 2 ^ dn := by rw [Nat.one_mul]; simp
  rw [s3] at s1
  clear s2 s3
  refine AW.skip ?_
  repeat refine AW.seq ?_
  refine AW.reg ?_
  iterate 10 refine AOL.s1 (h := ?_)
  refine AOL.nil ?_
  refine AW.kq [1, 2, 5] (h := ?_)
  repeat refine AW.seq ?_
  refine AW.reg ?_
  iterate 3 refine AOL.s1 (h := ?_)
  refine AOL.nil ?_
  refine AW.kq [1, 2, 5, 26, 27] (h := ?_)
  repeat refine AW.seq ?_
  refine AW.block ?_
  repeat refine AW.seq ?_
  obtain ⟨A0, hA0⟩ : ∃ A, id (A = [mr, mi, mo, ms]) := ⟨_, rfl⟩
  have lA0 : A0.length = 4 := by rw [show A0 = _ from hA0]; rfl
  rw [show ([u mr, u mi, u mo, u ms] : List AV) = fm u1 A0 by rw [show A0 = _ from hA0]; rfl]
  obtain ⟨a0, ha⟩ : ∃ a : Nat, a = 4 := ⟨_, rfl⟩
  rw [← ha] at lA0
  conv in AV.ref 1384 0 4 1 => rw [← ha]
  replace ha : a0 ≤ 4 := by omega
  refine AW.rounds ?_
  refine AWin.next [1, 2, 5, 26, 27] (h := ?_)
  repeat refine AW.seq ?_
  refine AW.reg ?_
  iterate 1 refine AOL.s1 (h := ?_)
  refine AOL.nil ?_
  refine AW.kq [1, 2, 5, 26, 27, 28] (h := ?_)
  repeat refine AW.seq ?_
  refine AW.cond rfl (fun c_ => ?_) (fun c_ => ?_)
  rotate_left
  · cases c_
  refine AW.skip ?_
  repeat refine AW.seq ?_
  refine AW.block ?_
  repeat refine AW.seq ?_
  refine AW.reg ?_
  iterate 3 refine AOL.s1 (h := ?_)
  refine AOL.nil ?_
  refine AW.kq [1, 2, 5, 7, 26, 27] (h := ?_)
  repeat refine AW.seq ?_
  refine AW.midK [1, 2, 5, 7, 26, 27, 46] (fun t => ∃ b : Bool, t = ⟨83, [(1, i dn), (2, .ptr 1032 0), (5, .ref 1384 0 a0 1), (7, .ptr 1112 0), (26, .agg [u xk, u xv, u xo, u xr, i xa, ul xp, u yk, u yv, u yo, u yr, i ya, ul yp]), (27, i 0), (46, bo b)], [(1032, ⟨31, true, [u mr, u mi, u mo, u ms, u xk, u xv, u xo, u xr, i xa, ul xp, u yk, u yv, u yo, u yr, i ya, ul yp, u pv, u po, u pr, u qv, u qo, u qr]⟩), (1112, ⟨27, true, [u xk, u xv, u xo, u xr, i xa, ul xp]⟩), (1384, ⟨22, false, fm u1 A0⟩)]⟩ ∧ b = !(decide ((xp.length : Int) = dn) && decide (0 ≤ xa) && decide (xa < 2 ^ dn))) ?_ ?_
  · cases g1 : ((xp.length : Int) != dn) with
    | true =>
      refine AW.drw 15 [] (by kernel_rfl) (h := ?_)
      iterate 15 refine ADL.dm 1 (h := ?_)
      refine ADL.done hmix rfl rfl (hT := ?_)
      iterate 2 refine AOL.s1 (h := ?_)
      refine AOL.nil ?_
      exact ⟨_, rfl, by rw [show decide ((xp.length : Int) = dn) = false from by simpa using g1]; rfl⟩
    | false =>
      have h1 : decide ((xp.length : Int) = dn) = true := by simpa using g1
      cases g2 : decide (xa < 0) with
      | true =>
        refine AW.drw 15 [] (by kernel_rfl) (h := ?_)
        iterate 15 refine ADL.dm 1 (h := ?_)
        refine ADL.done hmix rfl rfl (hT := ?_)
        iterate 2 refine AOL.s1 (h := ?_)
        refine AOL.nil ?_
        exact ⟨_, rfl, by rw [h1, show decide (0 ≤ xa) = false from by simpa using g2]; rfl⟩
      | false =>
        refine AW.drw 15 [] (by kernel_rfl) (h := ?_)
        iterate 15 refine ADL.dm 1 (h := ?_)
        refine ADL.done hmix rfl rfl (hT := ?_)
        iterate 2 refine AOL.s1 (h := ?_)
        refine AOL.nil ?_
        have h2 : decide (0 ≤ xa) = true := by simpa using g2
        have h3 : decide (xa ≥ 2 ^ dn) = !decide (xa < 2 ^ dn) := by rw [← decide_not]; exact decide_eq_decide.2 (by omega)
        exact ⟨_, rfl, by rw [h1, h2, h3]; rfl⟩
  rintro t ⟨b_, rfl, hb⟩
  repeat refine AW.seq ?_
  refine AW.cond rfl (fun d0 => ?_) (fun d0 => ?_)
  · have e : inF ⟨xk, (xv, xo, xr), xa, xp⟩ dn = false := by
      rw [d0] at hb
      unfold inF
      simp only [Int.toNat_natCast]
      rw [show (decide ((xp.length : Int) = dn) && decide (0 ≤ xa) && decide (xa < 2 ^ dn)) = false from (by have hx := congrArg (!·) hb; simpa only [Bool.not_not, Bool.not_true] using hx.symm)]
      rfl
    repeat refine AW.seq ?_
    refine AW.reg ?_
    iterate 1 refine AOL.s1 (h := ?_)
    refine AOL.nil ?_
    refine AW.kq [4] (h := ?_)
    repeat refine AW.seq ?_
    refine AW.ret ?_
    refine ⟨_, [], rfl, HOk.nil _, ?_⟩
    simp only [one?, fitsH, e, Bool.false_and, Bool.and_false]
  have e0 : id ((decide ((xp.length : Int) = dn) && decide (0 ≤ xa) && decide (xa < 2 ^ dn)) = true) := by
    rw [d0] at hb; simpa using hb
  have l0 : xp.length ≤ 16 := by
    have h := show _ = true from e0
    simp only [Bool.and_eq_true, decide_eq_true_eq] at h; omega
  clear d0 hb
  refine AW.skip ?_
  repeat refine AW.seq ?_
  have b1 : (a0 + 4) * 8 ≤ 140737488355328 := by omega
  have b2 : a0 + 4 ≤ 4611686018427387904 := by omega
  have b3 : a0 ≤ 4611686018427387900 := by omega
  have ll : (fm u1 A0).length = a0 := by rw [fm_len u1_len, Nat.mul_one, lA0]
  refine AW.da 16 (by kernel_rfl) (h := ?_)
  iterate 13 refine ADP.d1 (h := ?_)
  refine ADP.app 1384 (h := ?_)
  iterate 2 refine ADP.d1 (h := ?_)
  refine ADP.done hmix (by kernel_rfl) rfl (hT := ?_)
  have lx : (fm u1 xp).length = xp.length := by rw [fm_len u1_len, Nat.mul_one]
  have la : (fm u1 A0 ++ [u xk, u xv, u xo, u xr]).length = a0 + 4 := by rw [List.length_append, ll]; rfl
  have b4 : (a0 + 4 + xp.length) * 8 ≤ 140737488355328 := by omega
  have b5 : a0 + 4 + xp.length ≤ 4611686018427387904 := by omega
  have b6 : xp.length ≤ 4611686018427387904 := by omega
  iterate 2 refine AOL.s1 (h := ?_)
  refine AOL.nil ?_
  repeat refine AW.seq ?_
  refine AW.let 1112 (h := ?_)
  refine AW.reg ?_
  iterate 2 refine AOL.s1 (h := ?_)
  refine AOL.nil ?_
  clear lx la b1 b2 b3 b4 b5 b6 ll
  obtain ⟨A1, hA1⟩ : ∃ A1, id (A1 = A0 ++ [xk, xv, xo, xr] ++ xp) := ⟨_, rfl⟩
  rw [show fm u1 A0 ++ [u xk, u xv, u xo, u xr] ++ fm u1 xp = fm u1 A1 by rw [show A1 = _ from hA1, fm_app, fm_app]; rfl]
  have lA1 : A1.length = a0 + 4 + xp.length := by rw [show A1 = _ from hA1, List.length_append, List.length_append, lA0]; rfl
  obtain ⟨a1, ha_⟩ : ∃ x, x = a0 + 4 + xp.length := ⟨_, rfl⟩
  rw [← ha_] at lA1
  rw [← ha_]
  replace ha : a1 ≤ 4 + 20 * (0 + 1) := by omega
  clear ha_
  clear lA0 a0

  refine AWin.next [1, 2, 5, 26, 27] (h := ?_)
  repeat refine AW.seq ?_
  refine AW.reg ?_
  iterate 1 refine AOL.s1 (h := ?_)
  refine AOL.nil ?_
  refine AW.kq [1, 2, 5, 26, 27, 28] (h := ?_)
  repeat refine AW.seq ?_
  refine AW.cond rfl (fun c_ => ?_) (fun c_ => ?_)
  rotate_left
  · cases c_
  refine AW.skip ?_
  repeat refine AW.seq ?_
  refine AW.block ?_
  repeat refine AW.seq ?_
  refine AW.reg ?_
  iterate 3 refine AOL.s1 (h := ?_)
  refine AOL.nil ?_
  refine AW.kq [1, 2, 5, 7, 26, 27] (h := ?_)
  repeat refine AW.seq ?_
  refine AW.midK [1, 2, 5, 7, 26, 27, 46] (fun t => ∃ b : Bool, t = ⟨83, [(1, i dn), (2, .ptr 1032 0), (5, .ref 1384 0 a1 1), (7, .ptr 1112 0), (26, .agg [u xk, u xv, u xo, u xr, i xa, ul xp, u yk, u yv, u yo, u yr, i ya, ul yp]), (27, i 1), (46, bo b)], [(1032, ⟨31, true, [u mr, u mi, u mo, u ms, u xk, u xv, u xo, u xr, i xa, ul xp, u yk, u yv, u yo, u yr, i ya, ul yp, u pv, u po, u pr, u qv, u qo, u qr]⟩), (1112, ⟨27, true, [u yk, u yv, u yo, u yr, i ya, ul yp]⟩), (1384, ⟨22, false, fm u1 A1⟩)]⟩ ∧ b = !(decide ((yp.length : Int) = dn) && decide (0 ≤ ya) && decide (ya < 2 ^ dn))) ?_ ?_
  · cases g1 : ((yp.length : Int) != dn) with
    | true =>
      refine AW.drw 15 [] (by kernel_rfl) (h := ?_)
      iterate 15 refine ADL.dm 1 (h := ?_)
      refine ADL.done hmix rfl rfl (hT := ?_)
      iterate 2 refine AOL.s1 (h := ?_)
      refine AOL.nil ?_
      exact ⟨_, rfl, by rw [show decide ((yp.length : Int) = dn) = false from by simpa using g1]; rfl⟩
    | false =>
      have h1 : decide ((yp.length : Int) = dn) = true := by simpa using g1
      cases g2 : decide (ya < 0) with
      | true =>
        refine AW.drw 15 [] (by kernel_rfl) (h := ?_)
        iterate 15 refine ADL.dm 1 (h := ?_)
        refine ADL.done hmix rfl rfl (hT := ?_)
        iterate 2 refine AOL.s1 (h := ?_)
        refine AOL.nil ?_
        exact ⟨_, rfl, by rw [h1, show decide (0 ≤ ya) = false from by simpa using g2]; rfl⟩
      | false =>
        refine AW.drw 15 [] (by kernel_rfl) (h := ?_)
        iterate 15 refine ADL.dm 1 (h := ?_)
        refine ADL.done hmix rfl rfl (hT := ?_)
        iterate 2 refine AOL.s1 (h := ?_)
        refine AOL.nil ?_
        have h2 : decide (0 ≤ ya) = true := by simpa using g2
        have h3 : decide (ya ≥ 2 ^ dn) = !decide (ya < 2 ^ dn) := by rw [← decide_not]; exact decide_eq_decide.2 (by omega)
        exact ⟨_, rfl, by rw [h1, h2, h3]; rfl⟩
  rintro t ⟨b_, rfl, hb⟩
  repeat refine AW.seq ?_
  refine AW.cond rfl (fun d1 => ?_) (fun d1 => ?_)
  · have e : inF ⟨yk, (yv, yo, yr), ya, yp⟩ dn = false := by
      rw [d1] at hb
      unfold inF
      simp only [Int.toNat_natCast]
      rw [show (decide ((yp.length : Int) = dn) && decide (0 ≤ ya) && decide (ya < 2 ^ dn)) = false from (by have hx := congrArg (!·) hb; simpa only [Bool.not_not, Bool.not_true] using hx.symm)]
      rfl
    repeat refine AW.seq ?_
    refine AW.reg ?_
    iterate 1 refine AOL.s1 (h := ?_)
    refine AOL.nil ?_
    refine AW.kq [4] (h := ?_)
    repeat refine AW.seq ?_
    refine AW.ret ?_
    refine ⟨_, [], rfl, HOk.nil _, ?_⟩
    simp only [one?, fitsH, e, Bool.false_and, Bool.and_false]
  have e1 : id ((decide ((yp.length : Int) = dn) && decide (0 ≤ ya) && decide (ya < 2 ^ dn)) = true) := by
    rw [d1] at hb; simpa using hb
  have l1 : yp.length ≤ 16 := by
    have h := show _ = true from e1
    simp only [Bool.and_eq_true, decide_eq_true_eq] at h; omega
  clear d1 hb
  refine AW.skip ?_
  repeat refine AW.seq ?_
  have b1 : (a1 + 4) * 8 ≤ 140737488355328 := by omega
  have b2 : a1 + 4 ≤ 4611686018427387904 := by omega
  have b3 : a1 ≤ 4611686018427387900 := by omega
  have ll : (fm u1 A1).length = a1 := by rw [fm_len u1_len, Nat.mul_one, lA1]
  refine AW.da 16 (by kernel_rfl) (h := ?_)
  iterate 13 refine ADP.d1 (h := ?_)
  refine ADP.app 1384 (h := ?_)
  iterate 2 refine ADP.d1 (h := ?_)
  refine ADP.done hmix (by kernel_rfl) rfl (hT := ?_)
  have lx : (fm u1 yp).length = yp.length := by rw [fm_len u1_len, Nat.mul_one]
  have la : (fm u1 A1 ++ [u yk, u yv, u yo, u yr]).length = a1 + 4 := by rw [List.length_append, ll]; rfl
  have b4 : (a1 + 4 + yp.length) * 8 ≤ 140737488355328 := by omega
  have b5 : a1 + 4 + yp.length ≤ 4611686018427387904 := by omega
  have b6 : yp.length ≤ 4611686018427387904 := by omega
  iterate 2 refine AOL.s1 (h := ?_)
  refine AOL.nil ?_
  repeat refine AW.seq ?_
  refine AW.let 1112 (h := ?_)
  refine AW.reg ?_
  iterate 2 refine AOL.s1 (h := ?_)
  refine AOL.nil ?_
  clear lx la b1 b2 b3 b4 b5 b6 ll
  obtain ⟨A2, hA2⟩ : ∃ A2, id (A2 = A1 ++ [yk, yv, yo, yr] ++ yp) := ⟨_, rfl⟩
  rw [show fm u1 A1 ++ [u yk, u yv, u yo, u yr] ++ fm u1 yp = fm u1 A2 by rw [show A2 = _ from hA2, fm_app, fm_app]; rfl]
  have lA2 : A2.length = a1 + 4 + yp.length := by rw [show A2 = _ from hA2, List.length_append, List.length_append, lA1]; rfl
  obtain ⟨a2, ha_⟩ : ∃ x, x = a1 + 4 + yp.length := ⟨_, rfl⟩
  rw [← ha_] at lA2
  rw [← ha_]
  replace ha : a2 ≤ 4 + 20 * (1 + 1) := by omega
  clear ha_
  clear lA1 a1

  refine AWin.next [1, 2, 5, 26, 27] (h := ?_)
  repeat refine AW.seq ?_
  refine AW.reg ?_
  iterate 1 refine AOL.s1 (h := ?_)
  refine AOL.nil ?_
  refine AW.kq [1, 2, 5, 26, 27, 28] (h := ?_)
  repeat refine AW.seq ?_
  refine AW.cond rfl (fun c_ => ?_) (fun c_ => ?_)
  · cases c_
  repeat refine AW.seq ?_
  refine AW.exit ?_
  repeat (first | refine Kseq.ex ?_ | refine Kloop.ex ?_ | refine Kblock.miss (by decide) ?_)
  refine Kblock.hit ?_
  refine AW.kq [2, 5] (h := ?_)
  repeat refine AW.seq ?_
  refine AW.reg ?_
  iterate 3 refine AOL.s1 (h := ?_)
  refine AOL.nil ?_
  refine AW.kq [5, 66, 67] (h := ?_)
  repeat refine AW.seq ?_
  refine AW.block ?_
  repeat refine AW.seq ?_
  refine AW.rounds ?_
  refine AWin.next [5, 66, 67] (h := ?_)
  repeat refine AW.seq ?_
  refine AW.reg ?_
  iterate 1 refine AOL.s1 (h := ?_)
  refine AOL.nil ?_
  refine AW.kq [5, 66, 67, 68] (h := ?_)
  repeat refine AW.seq ?_
  refine AW.cond rfl (fun c_ => ?_) (fun c_ => ?_)
  rotate_left
  · cases c_
  refine AW.skip ?_
  repeat refine AW.seq ?_
  refine AW.block ?_
  repeat refine AW.seq ?_
  refine AW.reg ?_
  iterate 3 refine AOL.s1 (h := ?_)
  refine AOL.nil ?_
  refine AW.kq [5, 9, 66, 67] (h := ?_)
  repeat refine AW.seq ?_
  have b1 : (a2 + 3) * 8 ≤ 140737488355328 := by omega
  have b2 : a2 + 3 ≤ 4611686018427387904 := by omega
  have b3 : a2 ≤ 4611686018427387901 := by omega
  have ll : (fm u1 A2).length = a2 := by rw [fm_len u1_len, Nat.mul_one, lA2]
  refine AW.reg ?_
  iterate 10 refine AOL.s1 (h := ?_)
  refine AOL.nil ?_
  repeat refine AW.seq ?_
  refine AW.let 1144 (h := ?_)
  refine AW.let 2232 (h := ?_)
  refine AW.reg ?_
  iterate 2 refine AOL.s1 (h := ?_)
  refine AOL.nil ?_
  clear b1 b2 b3 ll
  obtain ⟨A3, hA3⟩ : ∃ A3, id (A3 = A2 ++ [pv, po, pr]) := ⟨_, rfl⟩
  rw [show fm u1 A2 ++ [u pv, u po, u pr] = fm u1 A3 by rw [show A3 = _ from hA3, fm_app]; rfl]
  have lA3 : A3.length = a2 + 3 := by rw [show A3 = _ from hA3, List.length_append, lA2]; rfl
  obtain ⟨a3, ha_⟩ : ∃ x, x = a2 + 3 := ⟨_, rfl⟩
  rw [← ha_] at lA3
  rw [← ha_]
  replace ha : a3 ≤ 47 + 3 * 0 := by omega
  clear ha_
  clear lA2 a2
  refine AWin.next [5, 66, 67] (h := ?_)
  repeat refine AW.seq ?_
  refine AW.reg ?_
  iterate 1 refine AOL.s1 (h := ?_)
  refine AOL.nil ?_
  refine AW.kq [5, 66, 67, 68] (h := ?_)
  repeat refine AW.seq ?_
  refine AW.cond rfl (fun c_ => ?_) (fun c_ => ?_)
  rotate_left
  · cases c_
  refine AW.skip ?_
  repeat refine AW.seq ?_
  refine AW.block ?_
  repeat refine AW.seq ?_
  refine AW.reg ?_
  iterate 3 refine AOL.s1 (h := ?_)
  refine AOL.nil ?_
  refine AW.kq [5, 9, 66, 67] (h := ?_)
  repeat refine AW.seq ?_
  have b1 : (a3 + 3) * 8 ≤ 140737488355328 := by omega
  have b2 : a3 + 3 ≤ 4611686018427387904 := by omega
  have b3 : a3 ≤ 4611686018427387901 := by omega
  have ll : (fm u1 A3).length = a3 := by rw [fm_len u1_len, Nat.mul_one, lA3]
  refine AW.reg ?_
  iterate 10 refine AOL.s1 (h := ?_)
  refine AOL.nil ?_
  repeat refine AW.seq ?_
  refine AW.let 1144 (h := ?_)
  refine AW.let 2232 (h := ?_)
  refine AW.reg ?_
  iterate 2 refine AOL.s1 (h := ?_)
  refine AOL.nil ?_
  clear b1 b2 b3 ll
  obtain ⟨A4, hA4⟩ : ∃ A4, id (A4 = A3 ++ [qv, qo, qr]) := ⟨_, rfl⟩
  rw [show fm u1 A3 ++ [u qv, u qo, u qr] = fm u1 A4 by rw [show A4 = _ from hA4, fm_app]; rfl]
  have lA4 : A4.length = a3 + 3 := by rw [show A4 = _ from hA4, List.length_append, lA3]; rfl
  obtain ⟨a4, ha_⟩ : ∃ x, x = a3 + 3 := ⟨_, rfl⟩
  rw [← ha_] at lA4
  rw [← ha_]
  replace ha : a4 ≤ 47 + 3 * 1 := by omega
  clear ha_
  clear lA3 a3
  refine AWin.next [5, 66, 67] (h := ?_)
  repeat refine AW.seq ?_
  refine AW.reg ?_
  iterate 1 refine AOL.s1 (h := ?_)
  refine AOL.nil ?_
  refine AW.kq [5, 66, 67, 68] (h := ?_)
  repeat refine AW.seq ?_
  refine AW.cond rfl (fun c_ => ?_) (fun c_ => ?_)
  · cases c_
  repeat refine AW.seq ?_
  refine AW.exit ?_
  repeat (first | refine Kseq.ex ?_ | refine Kloop.ex ?_ | refine Kblock.miss (by decide) ?_)
  refine Kblock.hit ?_
  refine AW.kq [5] (h := ?_)
  have wA : wV A4 := by
    rw [show A4 = _ from hA4, show A3 = _ from hA3, show A2 = _ from hA2, show A1 = _ from hA1, show A0 = _ from hA0]
    intro v hv
    simp only [List.mem_append, List.mem_cons, List.not_mem_nil, or_false] at hv
    rcases hv with ((((((h | h | h | h) | (h | h | h | h)) | h) | (h | h | h | h)) | h) | (h | h | h)) | (h | h | h)
    all_goals first | (subst h; assumption) | exact x6 v h | exact y6 v h
  have hf : fitsH ⟨mr, mi, mo, ms, ⟨xk, (xv, xo, xr), xa, xp⟩, ⟨yk, (yv, yo, yr), ya, yp⟩, (pv, po, pr), (qv, qo, qr)⟩ dn = A4.all bw := by
    rw [show A4 = _ from hA4, show A3 = _ from hA3, show A2 = _ from hA2, show A1 = _ from hA1, show A0 = _ from hA0]
    unfold fitsH hdF inF outF
    simp only [Int.toNat_natCast, List.all_append, List.all_cons, List.all_nil, Bool.and_true]
    rw [show decide (1 ≤ (dn:Int) ∧ (dn:Int) ≤ 16) = true from hdt, show _ = true from e0, show _ = true from e1]
    simp only [Bool.true_and]
    ac_rfl
  have hfl : AV.sl a4 (sub 0 (a4 * 1) (fm u1 A4)) = ul A4 := by rw [← lA4, sub_all (by rw [fm_len u1_len]; exact Nat.le_refl _)]
  refine AW.fz 1384 rfl (fun h => by cases h) (h := ?_)
  rw [hfl]
  clear hfl
  have cf := slices_ContainsFunc_uint64_uint64_c (V := A4) (g := 71) (p := fun v => decide (v ≥ 288230376287764481)) (by omega) wA (by kernel_rfl) (fun v hv => circuit_fits_1_c (wA v hv))
  have ea := any_bw A4
  replace hf : id (_ = _) := hf
  replace ea : id (_ = _) := ea
  repeat refine AW.seq ?_
  refine AW.reg ?_
  iterate 1 refine AOL.s1 (h := ?_)
  refine AOL.callD rfl (cf) (by kernel_rfl) rfl rfl (h := ?_)
  iterate 2 refine AOL.s1 (h := ?_)
  refine AOL.nil ?_
  refine AW.kq [4] (h := ?_)
  repeat refine AW.seq ?_
  refine AW.ret ?_
  refine ⟨_, [], rfl, HOk.nil _, ?_⟩
  rw [show _ = _ from hf, ← show _ = _ from ea]
  rfl
end Go.Proofs.YtngphcdhdllnnaaGreat.E.M
end
section
/- circuit.Numbers: a move's public numbers: a contract over E. -/
set_option linter.unusedVariables false
set_option linter.unusedSimpArgs false
set_option maxRecDepth 10000
open Go Go.Proofs.YtngphcdhdllnnaaGreat.E Go.Proofs
namespace Go.Proofs.YtngphcdhdllnnaaGreat.E.M
def numsH (m : Mv) : List Int := [m.r, m.i, m.o, m.s, endH m.x, endH m.y, mrkH m.p, mrkH m.q, twoH (twoH m.x.k 1) m.s, twoH (twoH m.y.k 1) m.s]
abbrev errA : AV := .val (.iface 41 (.int .i64 1))
theorem manyH_w (V : List Int) : w64 (manyH V) := (manyH_l V).w
set_option maxHeartbeats 16000000 in
theorem circuit_Numbers_c {m : Mv} {d : Int} (hm : wM m) : Fn Tryz.prog 27 [.agg (mvc m), i d] [] (fun r _ => r = if fitsH m d = true then .tup [ul (numsH m), .val .nilIface] else .tup [.val (.slice none 0 0), errA]) := by
  have cF := circuit_fits_c (d := d) hm
  have hF : fitsH m d = true → (0 ≤ m.x.a ∧ 0 ≤ m.y.a) := by
    intro h
    simp only [fitsH, inF, Bool.and_eq_true, decide_eq_true_eq] at h
    omega
  generalize fitsH m d = ft at *
  obtain ⟨mr, mi, mo, ms, ⟨xk, ⟨xv, xo, xr⟩, xa, xp⟩, ⟨yk, ⟨yv, yo, yr⟩, ya, yp⟩, ⟨pv, po, pr⟩, ⟨qv, qo, qr⟩⟩ := m
  obtain ⟨w1, w2, w3, w4, ⟨x1, ⟨x2, x3, x4⟩, x5, x6, x7⟩, ⟨y1, ⟨y2, y3, y4⟩, y5, y6, y7⟩, ⟨p1, p2, p3⟩, ⟨q1, q2, q3⟩⟩ := hm
  simp only at w1 w2 w3 w4 x1 x2 x3 x4 x5 x6 x7 y1 y2 y3 y4 y5 y6 y7 p1 p2 p3 q1 q2 q3 hF
  have n0 : Int.toNat 0 = 0 := rfl
  have n1 : Int.toNat 1 = 1 := rfl
  have q0 : (0:Int) ≤ 0 := by decide
  have q1' : (0:Int) ≤ 1 := by decide
  have x02 : (0:Int) < ((2:Nat):Int) := by decide
  have x12 : (1:Int) < ((2:Nat):Int) := by decide
  have z02 : (0:Int) < 2 := by decide
  have z12 : (1:Int) < 2 := by decide
  have a1 : IntKind.i64.wrap (0 + 1) = 1 := by decide
  have a2 : IntKind.i64.wrap (1 + 1) = 2 := by decide
  have i02 : decide ((0:Int) < 2) = true := rfl
  have i12 : decide ((1:Int) < 2) = true := rfl
  have i22 : decide ((2:Int) < 2) = false := rfl
  show Fn Tryz.prog 27 [.agg [u mr, u mi, u mo, u ms, u xk, u xv, u xo, u xr, i xa, ul xp, u yk, u yv, u yo, u yr, i ya, ul yp, u pv, u po, u pr, u qv, u qo, u qr], i d] [] _
  replace cF : Fn Tryz.prog 54 [.agg [u mr, u mi, u mo, u ms, u xk, u xv, u xo, u xr, i xa, ul xp, u yk, u yv, u yo, u yr, i ya, ul yp, u pv, u po, u pr, u qv, u qo, u qr], i d] [] (fun r _ => r = bo ft) := cF
  refine Fn.enter Tryz.func27 Tryz.ntmps27 rfl (h := ?_)
  have tf := tfv
  have tfr := tfr
  have ot_ : (false || true) = true := rfl
  repeat refine AW.seq ?_
  refine AW.reg ?_
  iterate 3 refine AOL.s1 (h := ?_)
  refine AOL.nil ?_
  refine AW.kq [1, 2] (h := ?_)
  repeat refine AW.seq ?_
  refine AW.reg ?_
  iterate 2 refine AOL.s1 (h := ?_)
  refine AOL.callD rfl (cF) (by kernel_rfl) rfl rfl (h := ?_)
  iterate 1 refine AOL.s1 (h := ?_)
  refine AOL.nil ?_
  refine AW.kq [2, 16] (h := ?_)
  repeat refine AW.seq ?_
  refine AW.cond rfl (fun c_ => ?_) (fun c_ => ?_)
  · have e : ft = false := by simpa using c_
    repeat refine AW.seq ?_
    refine AW.reg ?_
    iterate 3 refine AOL.s1 (h := ?_)
    refine AOL.nil ?_
    refine AW.kq [4, 5] (h := ?_)
    repeat refine AW.seq ?_
    refine AW.ret ?_
    refine ⟨_, [], rfl, HOk.nil _, ?_⟩
    rw [e]; rfl
  have e : ft = true := by simpa using c_
  obtain ⟨xa0, ya0⟩ := hF e
  rw [if_pos e]
  clear c_ e hF cF
  have xw : IntKind.u64.wrap xa = xa := i64_o xa0 x5
  have yw : IntKind.u64.wrap ya = ya := i64_o ya0 y5
  have xaw : w64 xa := ⟨xa0, by omega⟩
  have yaw : w64 ya := ⟨ya0, by omega⟩
  refine AW.skip ?_
  repeat refine AW.seq ?_
  refine AW.reg ?_
  iterate 10 refine AOL.s1 (h := ?_)
  refine AOL.nil ?_
  refine AW.kq [2, 6] (h := ?_)
  repeat refine AW.seq ?_
  refine AW.reg ?_
  iterate 1 refine AOL.s1 (h := ?_)
  refine AOL.nil ?_
  refine AW.kq [2, 6, 7] (h := ?_)
  refine AW.born 7 9001 22 1 (.inl rfl) (h := ?_)
  repeat refine AW.seq ?_
  refine AW.reg ?_
  iterate 3 refine AOL.s1 (h := ?_)
  refine AOL.nil ?_
  refine AW.kq [2, 6, 7, 28, 29] (h := ?_)
  repeat refine AW.seq ?_
  refine AW.block ?_
  repeat refine AW.seq ?_
  refine AW.rounds ?_
  refine AWin.next [2, 6, 7, 28, 29] (h := ?_)
  repeat refine AW.seq ?_
  refine AW.reg ?_
  iterate 1 refine AOL.s1 (h := ?_)
  refine AOL.nil ?_
  refine AW.kq [2, 6, 7, 28, 29, 30] (h := ?_)
  repeat refine AW.seq ?_
  refine AW.cond rfl (fun c_ => ?_) (fun c_ => ?_)
  rotate_left
  · cases c_
  refine AW.skip ?_
  repeat refine AW.seq ?_
  refine AW.block ?_
  repeat refine AW.seq ?_
  refine AW.reg ?_
  iterate 3 refine AOL.s1 (h := ?_)
  refine AOL.nil ?_
  refine AW.kq [2, 6, 7, 9, 28, 29] (h := ?_)
  repeat refine AW.seq ?_
  refine AW.reg ?_
  iterate 2 refine AOL.s1 (h := ?_)
  refine AOL.callD rfl (cube_Two_c (a := xk) (b := 1) x1 (by decide)) (by kernel_rfl) rfl rfl (h := ?_)
  iterate 1 refine AOL.s1 (h := ?_)
  refine AOL.nil ?_
  refine AW.kq [2, 6, 7, 9, 10, 28, 29] (h := ?_)
  repeat refine AW.seq ?_
  obtain ⟨hx, hhx⟩ : ∃ h, id (h = twoH xk 1) := ⟨_, rfl⟩
  rw [← show hx = _ from hhx]
  have whx : w64 hx := by rw [show hx = _ from hhx]; exact (twoH_l _ _).w
  have wvx : wV [hx, xr, xa] := by
    intro v hv
    simp only [List.mem_cons, List.not_mem_nil, or_false] at hv
    rcases hv with rfl | rfl | rfl <;> assumption
  refine AW.reg ?_
  iterate 9 refine AOL.s1 (h := ?_)
  refine AOL.fz 1688 rfl (fun h => by cases h) (h := ?_)
  refine AOL.callD rfl (cube_Many_c (V := [hx, xr, xa]) wvx (by simp)) (by kernel_rfl) rfl rfl (h := ?_)
  iterate 3 refine AOL.s1 (h := ?_)
  refine AOL.nil ?_
  refine AW.kq [2, 6, 7, 10, 28, 29] (h := ?_)
  repeat refine AW.seq ?_
  refine AW.reg ?_
  iterate 4 refine AOL.s1 (h := ?_)
  refine AOL.callD rfl (cube_Two_c (a := hx) (b := ms) whx w4) (by kernel_rfl) rfl rfl (h := ?_)
  iterate 3 refine AOL.s1 (h := ?_)
  refine AOL.nil ?_
  repeat refine AW.seq ?_
  refine AW.let 1144 (h := ?_)
  refine AW.let 1720 (h := ?_)
  refine AW.let 1832 (h := ?_)
  refine AW.reg ?_
  iterate 2 refine AOL.s1 (h := ?_)
  refine AOL.nil ?_
  refine AWin.next [2, 6, 7, 28, 29] (h := ?_)
  repeat refine AW.seq ?_
  refine AW.reg ?_
  iterate 1 refine AOL.s1 (h := ?_)
  refine AOL.nil ?_
  refine AW.kq [2, 6, 7, 28, 29, 30] (h := ?_)
  repeat refine AW.seq ?_
  refine AW.cond rfl (fun c_ => ?_) (fun c_ => ?_)
  rotate_left
  · cases c_
  refine AW.skip ?_
  repeat refine AW.seq ?_
  refine AW.block ?_
  repeat refine AW.seq ?_
  refine AW.reg ?_
  iterate 3 refine AOL.s1 (h := ?_)
  refine AOL.nil ?_
  refine AW.kq [2, 6, 7, 9, 28, 29] (h := ?_)
  repeat refine AW.seq ?_
  refine AW.reg ?_
  iterate 2 refine AOL.s1 (h := ?_)
  refine AOL.callD rfl (cube_Two_c (a := yk) (b := 1) y1 (by decide)) (by kernel_rfl) rfl rfl (h := ?_)
  iterate 1 refine AOL.s1 (h := ?_)
  refine AOL.nil ?_
  refine AW.kq [2, 6, 7, 9, 10, 28, 29] (h := ?_)
  repeat refine AW.seq ?_
  obtain ⟨hy, hhy⟩ : ∃ h, id (h = twoH yk 1) := ⟨_, rfl⟩
  rw [← show hy = _ from hhy]
  have why : w64 hy := by rw [show hy = _ from hhy]; exact (twoH_l _ _).w
  have wvy : wV [hy, yr, ya] := by
    intro v hv
    simp only [List.mem_cons, List.not_mem_nil, or_false] at hv
    rcases hv with rfl | rfl | rfl <;> assumption
  refine AW.reg ?_
  iterate 9 refine AOL.s1 (h := ?_)
  refine AOL.fz 1688 rfl (fun h => by cases h) (h := ?_)
  refine AOL.callD rfl (cube_Many_c (V := [hy, yr, ya]) wvy (by simp)) (by kernel_rfl) rfl rfl (h := ?_)
  iterate 3 refine AOL.s1 (h := ?_)
  refine AOL.nil ?_
  refine AW.kq [2, 6, 7, 10, 28, 29] (h := ?_)
  repeat refine AW.seq ?_
  refine AW.reg ?_
  iterate 4 refine AOL.s1 (h := ?_)
  refine AOL.callD rfl (cube_Two_c (a := hy) (b := ms) why w4) (by kernel_rfl) rfl rfl (h := ?_)
  iterate 3 refine AOL.s1 (h := ?_)
  refine AOL.nil ?_
  repeat refine AW.seq ?_
  refine AW.let 1144 (h := ?_)
  refine AW.let 1720 (h := ?_)
  refine AW.let 1832 (h := ?_)
  refine AW.reg ?_
  iterate 2 refine AOL.s1 (h := ?_)
  refine AOL.nil ?_
  refine AWin.next [2, 6, 7, 28, 29] (h := ?_)
  repeat refine AW.seq ?_
  refine AW.reg ?_
  iterate 1 refine AOL.s1 (h := ?_)
  refine AOL.nil ?_
  refine AW.kq [2, 6, 7, 28, 29, 30] (h := ?_)
  repeat refine AW.seq ?_
  refine AW.cond rfl (fun c_ => ?_) (fun c_ => ?_)
  · cases c_
  repeat refine AW.seq ?_
  refine AW.exit ?_
  repeat (first | refine Kseq.ex ?_ | refine Kloop.ex ?_ | refine Kblock.miss (by decide) ?_)
  refine Kblock.hit ?_
  refine AW.kq [2, 6, 7] (h := ?_)
  repeat refine AW.seq ?_
  refine AW.reg ?_
  iterate 3 refine AOL.s1 (h := ?_)
  refine AOL.nil ?_
  refine AW.kq [6, 7, 56, 57] (h := ?_)
  repeat refine AW.seq ?_
  refine AW.block ?_
  repeat refine AW.seq ?_
  refine AW.rounds ?_
  refine AWin.next [6, 7, 56, 57] (h := ?_)
  repeat refine AW.seq ?_
  refine AW.reg ?_
  iterate 1 refine AOL.s1 (h := ?_)
  refine AOL.nil ?_
  refine AW.kq [6, 7, 56, 57, 58] (h := ?_)
  repeat refine AW.seq ?_
  refine AW.cond rfl (fun c_ => ?_) (fun c_ => ?_)
  rotate_left
  · cases c_
  refine AW.skip ?_
  repeat refine AW.seq ?_
  refine AW.block ?_
  repeat refine AW.seq ?_
  refine AW.reg ?_
  iterate 3 refine AOL.s1 (h := ?_)
  refine AOL.nil ?_
  refine AW.kq [6, 7, 12, 56, 57] (h := ?_)
  repeat refine AW.seq ?_
  refine AW.reg ?_
  iterate 2 refine AOL.s1 (h := ?_)
  refine AOL.callD rfl (circuit_mark_c (n := (pv, po, pr)) ⟨p1, p2, p3⟩) (by kernel_rfl) rfl rfl (h := ?_)
  iterate 3 refine AOL.s1 (h := ?_)
  refine AOL.nil ?_
  repeat refine AW.seq ?_
  refine AW.let 1192 (h := ?_)
  refine AW.let 2008 (h := ?_)
  refine AW.reg ?_
  iterate 2 refine AOL.s1 (h := ?_)
  refine AOL.nil ?_
  refine AWin.next [6, 7, 56, 57] (h := ?_)
  repeat refine AW.seq ?_
  refine AW.reg ?_
  iterate 1 refine AOL.s1 (h := ?_)
  refine AOL.nil ?_
  refine AW.kq [6, 7, 56, 57, 58] (h := ?_)
  repeat refine AW.seq ?_
  refine AW.cond rfl (fun c_ => ?_) (fun c_ => ?_)
  rotate_left
  · cases c_
  refine AW.skip ?_
  repeat refine AW.seq ?_
  refine AW.block ?_
  repeat refine AW.seq ?_
  refine AW.reg ?_
  iterate 3 refine AOL.s1 (h := ?_)
  refine AOL.nil ?_
  refine AW.kq [6, 7, 12, 56, 57] (h := ?_)
  repeat refine AW.seq ?_
  refine AW.reg ?_
  iterate 2 refine AOL.s1 (h := ?_)
  refine AOL.callD rfl (circuit_mark_c (n := (qv, qo, qr)) ⟨q1, q2, q3⟩) (by kernel_rfl) rfl rfl (h := ?_)
  iterate 3 refine AOL.s1 (h := ?_)
  refine AOL.nil ?_
  repeat refine AW.seq ?_
  refine AW.let 1192 (h := ?_)
  refine AW.let 2008 (h := ?_)
  refine AW.reg ?_
  iterate 2 refine AOL.s1 (h := ?_)
  refine AOL.nil ?_
  refine AWin.next [6, 7, 56, 57] (h := ?_)
  repeat refine AW.seq ?_
  refine AW.reg ?_
  iterate 1 refine AOL.s1 (h := ?_)
  refine AOL.nil ?_
  refine AW.kq [6, 7, 56, 57, 58] (h := ?_)
  repeat refine AW.seq ?_
  refine AW.cond rfl (fun c_ => ?_) (fun c_ => ?_)
  · cases c_
  repeat refine AW.seq ?_
  refine AW.exit ?_
  repeat (first | refine Kseq.ex ?_ | refine Kloop.ex ?_ | refine Kblock.miss (by decide) ?_)
  refine Kblock.hit ?_
  refine AW.kq [6, 7] (h := ?_)
  repeat refine AW.seq ?_
  refine AW.reg ?_
  iterate 5 refine AOL.s1 (h := ?_)
  refine AOL.nil ?_
  refine AW.kq [4, 5] (h := ?_)
  refine AW.fz 1416 rfl (fun h => by cases h) (h := ?_)
  repeat refine AW.seq ?_
  refine AW.ret ?_
  refine ⟨_, [], rfl, HOk.nil _, ?_⟩
  simp only [numsH, endH, mrkH]
  rw [← show hx = _ from hhx, ← show hy = _ from hhy]
  generalize manyH [hx, xr, xa] = g1
  generalize manyH [hy, yr, ya] = g2
  generalize manyH [pv, po, pr] = g3
  generalize manyH [qv, qo, qr] = g4
  generalize twoH hx ms = g5
  generalize twoH hy ms = g6
  rfl
end Go.Proofs.YtngphcdhdllnnaaGreat.E.M
end
section
/- obollaw12: deeds of a maker; systems that are the same: contracts over E. -/
set_option linter.unusedVariables false
set_option linter.unusedSimpArgs false
set_option maxRecDepth 10000
open Go Go.Proofs.YtngphcdhdllnnaaGreat.E Go.Proofs
namespace Go.Proofs.YtngphcdhdllnnaaGreat.E.M
/-- a new maker is laid -/
theorem AOL.callNew {ops : Array Oper} {o : Oper} {os : List Oper} {K : St → Prop} {st st' : St} {b : Nat}
    (hc : callL st ops.toList o = some (9, []))
    (hst : ({ (st.drops [b, b + 1, b + 2]) with h := ins (b + 2) (vlB [1]) (ins (b + 1) (rwB []) (ins b (mkB mk0 (b + 1) (b + 2)) (st.drops [b, b + 1, b + 2]).h)) } : St).put o.dst (.ptr b 0) = st')
    (h : AOL Tryz.prog ops os K st') (hb : 1000 ≤ b := by decide) : AOL Tryz.prog ops (o :: os) K st := by
  refine AOL.callT (las := []) (hin := []) [] b gadget_New_c hc rfl (by kernel_rfl) (by simp [labss]) (by simp) ?_ ?_ h (by simp) (by simp) hb
  · refine ⟨?_, ?_, ?_, ?_, ?_⟩
    · intro p hp
      simp only [List.mem_cons, List.not_mem_nil, or_false] at hp
      rcases hp with rfl | rfl | rfl <;> simp
    · intro p hp
      simp only [List.mem_cons, List.not_mem_nil, or_false] at hp
      rcases hp with rfl | rfl | rfl <;> simp
    · intro k hk; simp [labs] at hk; subst hk; simp [hlabs]
    · intro p hp
      simp only [List.mem_cons, List.not_mem_nil, or_false] at hp
      rcases hp with rfl | rfl | rfl
      · intro k hk; simp [labss, labs] at hk; rcases hk with rfl | rfl <;> simp [hlabs]
      · intro k hk; simp only [rw_labs] at hk; cases hk
      · intro k hk; simp only [u1_labs] at hk; cases hk
    · intro x hx y hy
      simp only [hlabs, List.map_cons, List.map_nil, List.mem_cons, List.not_mem_nil, or_false] at hx hy
      rcases hx with rfl | rfl | rfl <;> rcases hy with rfl | rfl | rfl <;> simp [sig, nth, pos]
  · rw [← hst]
    simp only [St.after, mkNew, consumed, newNames, get?, putH, sig, nth, pos, renB, rens, ren, rw_rens, u1_rens, Nat.reduceLT, Nat.reduceEqDiff, if_true, if_false, reduceIte, Nat.reduceAdd, Nat.zero_add, Nat.add_zero, List.cons_append, List.nil_append]
/-- a maker tells its system and its values -/
theorem AOL.callDone {ops : Array Oper} {o : Oper} {os : List Oper} {K : St → Prop} {st st' : St} {m : Mk} {l b : Nat} (hm : Mok 0 m ∧ rok m.rows)
    (hc : callL st ops.toList o = some (18, [.ptr l 0]))
    (h0 : get? l st.h = some (mkB m (b + 1) (b + 2))) (h1 : get? (b + 1) st.h = some (rwB m.rows)) (h2 : get? (b + 2) st.h = some (vlB m.vals))
    (hst : ({ (st.drops [b + 1, b + 2, b + 1, b + 2, b + 3]) with h := ins (b + 3) (vlB m.vals) (ins (b + 2) (vlB m.vals) (ins (b + 1) (rwB m.rows) (ins l (mkB m (b + 1) (b + 2)) (st.drops [b + 1, b + 2, b + 1, b + 2, b + 3]).h))) } : St).put o.dst (.tup [.agg [i m.v, i m.p, slF rw_ m.rows], .ref (b + 3) 0 m.vals.length 1]) = st')
    (h : AOL Tryz.prog ops os K st') (hl : l ≠ b + 1 ∧ l ≠ b + 2 ∧ l ≠ b + 3 := by decide) (hb : 1000 ≤ b := by decide) : AOL Tryz.prog ops (o :: os) K st := by
  refine AOL.callT (las := [.ptr 0 0]) (hin := mkIn m) [l, b + 1, b + 2] b (gadget_Maker_Done_c hm.1 hm.2) hc ?_ (by kernel_rfl) ?_ ?_ ?_ ?_ h ?_ (by simp) hb
  · simp only [rens, ren, nth]
  · intro k hk; simp [labss, labs] at hk; subst hk; simp
  · intro p hp
    simp only [List.mem_cons, List.not_mem_nil, or_false] at hp
    rcases hp with rfl | rfl | rfl
    · refine ⟨by simp, ?_, ?_⟩
      · intro k hk; simp [labss, labs] at hk; rcases hk with rfl | rfl <;> simp
      · simp only [nth, renB, rens, ren]; exact h0
    · refine ⟨by simp, ?_, ?_⟩
      · intro k hk; simp only [rw_labs] at hk; cases hk
      · simp only [nth, renB, rw_rens]; exact h1
    · refine ⟨by simp, ?_, ?_⟩
      · intro k hk; simp only [u1_labs] at hk; cases hk
      · simp only [nth, renB, u1_rens]; exact h2
  · refine ⟨?_, ?_, ?_, ?_, ?_⟩
    · intro p hp
      simp only [List.mem_cons, List.not_mem_nil, or_false] at hp
      rcases hp with rfl | rfl | rfl | rfl <;> simp
    · intro p hp
      simp only [List.mem_cons, List.not_mem_nil, or_false] at hp
      rcases hp with rfl | rfl | rfl | rfl <;> simp
    · intro k hk; simp [labs, labss] at hk; subst hk; simp [hlabs]
    · intro p hp
      simp only [List.mem_cons, List.not_mem_nil, or_false] at hp
      rcases hp with rfl | rfl | rfl | rfl
      · intro k hk; simp [labss, labs] at hk; rcases hk with rfl | rfl <;> simp [hlabs]
      · intro k hk; simp only [rw_labs] at hk; cases hk
      · intro k hk; simp only [u1_labs] at hk; cases hk
      · intro k hk; simp only [u1_labs] at hk; cases hk
    · intro x hx y hy
      simp only [hlabs, List.map_cons, List.map_nil, List.mem_cons, List.not_mem_nil, or_false] at hx hy
      rcases hx with rfl | rfl | rfl | rfl <;> rcases hy with rfl | rfl | rfl | rfl <;> simp [sig, nth, pos] <;> omega
  · rw [← hst]
    simp only [St.after, mkDone, consumed, newNames, get?, putH, sig, nth, pos, renB, rens, ren, rw_rens, u1_rens, Nat.reduceLT, Nat.reduceEqDiff, if_true, if_false, reduceIte, Nat.reduceAdd, Nat.zero_add, List.cons_append, List.nil_append]
  · simp; omega
def pkF (c : Int) : Int := (if c < 0 then -(c + 1) else c) % 9
structure Dd where
  what : Int
  a : Int
  b : Int
  n : Int
  k : Int
  L : List Tm
  V : List Int
  deriving Inhabited
abbrev dd (d : Dd) : List AV := [i d.what, i d.a, i d.b, i d.n, u d.k, slF tm d.L, il d.V]
def callMk (m : Mk) (d : Dd) : Mk :=
  if (pkF d.what == 0) = true then pubM m d.k else
  if (pkF d.what == 1) = true then freshM m d.k else
  if (pkF d.what == 2) = true then linM m d.L else
  if (pkF d.what == 3) = true then mulM m d.a d.b else
  if (pkF d.what == 4) = true then bitM m d.a d.n else
  if (pkF d.what == 5) = true then choM m d.n d.a d.b else
  if (pkF d.what == 6) = true then sameM m d.a d.b else
  if (pkF d.what == 7) = true then twoM m d.a d.b else
  (manE m d.V).1
end Go.Proofs.YtngphcdhdllnnaaGreat.E.M
end
section
/- circuit.Make: a move's system and its values. -/
set_option linter.unusedVariables false
set_option linter.unusedSimpArgs false
set_option maxRecDepth 10000
open Go Go.Proofs.YtngphcdhdllnnaaGreat.E Go.Proofs
namespace Go.Proofs.YtngphcdhdllnnaaGreat.E.M
def oneS : Nat → List Int
  | 0 => []
  | n + 1 => oneS n ++ [((n + 1 : Nat) : Int)]
/-- a maker of public variables alone -/
def pubK (V : List Int) : Mk := ⟨((V.length + 1 : Nat) : Int), V.length, [], 1 :: V.map fun v => v % 288230376287764481⟩
theorem pubK_s (V : List Int) (x : Int) : pubM (pubK V) x = pubK (V ++ [x]) := by
  unfold pubM
  rw [if_neg (by simp only [pubK]; omega)]
  simp [pubK, freshM]
theorem pubK_i (V : List Int) : pubI (pubK V) = ((V.length + 1 : Nat) : Int) := by
  unfold pubI
  rw [if_neg (by simp only [pubK]; omega)]
  simp [pubK]
theorem pubK_e (V : List Int) : pubE (pubK V) = .nilIface := by
  unfold pubE
  rw [if_neg (by simp only [pubK]; omega)]
theorem pubK_ok {V : List Int} (h : V.length ≤ 10) : Mok 900000 (pubK V) := by
  have e1 : (pubK V).vals.length = V.length + 1 := by simp [pubK]
  have e2 : (pubK V).rows.length = 0 := rfl
  refine ⟨by rw [e1]; omega, by rw [e2]; omega, ?_, by rw [e1]; omega⟩
  intro v hv
  simp only [pubK, List.mem_cons, List.mem_map] at hv
  rcases hv with rfl | ⟨w, _, rfl⟩
  · decide
  · exact ⟨Int.emod_nonneg _ (by decide), by have := Int.emod_lt_of_pos w (b := 288230376287764481) (by decide); omega⟩
/-- what is made of an output -/
def outM (m : Mk) (n : Int × Int × Int) (e : Int) : Mk :=
  let q1 := freshM m n.1
  let q2 := freshM q1 n.2.1
  let q3 := freshM q2 n.2.2
  let q4 := bitM q3 m.vals.length 32
  sameM (manE q4 [(m.vals.length : Int), q1.vals.length, q2.vals.length]).1 (manE q4 [(m.vals.length : Int), q1.vals.length, q2.vals.length]).2 e
theorem outM_ok {j : Nat} {m : Mk} (h : Mok (200 + j) m) (n : Int × Int × Int) (e : Int) : Mok j (outM m n e) := by
  unfold outM
  have o1 := Mok.fresh (k := 199 + j) (Mok.mono h (by omega)) n.1
  have o2 := Mok.fresh (k := 198 + j) (Mok.mono o1 (by omega)) n.2.1
  have o3 := Mok.fresh (k := 197 + j) (Mok.mono o2 (by omega)) n.2.2
  have o4 := bitM_ok (k := 80 + j) (Mok.mono o3 (by omega)) m.vals.length 32
  have o5 := manE_ok (k := 30 + j) (V := [(m.vals.length : Int), (freshM m n.1).vals.length, (freshM (freshM m n.1) n.2.1).vals.length]) (Mok.mono o4 (by simp; omega))
  exact Mok.row (Mok.mono o5 (by omega)) _ _ _
/-- the whole system, and the values -/
abbrev mkG1 (m : Mv) (d : Int) : Mk := inpM (pubK (numsH m)) m.x.k m.x.n.1 m.x.n.2.1 m.x.n.2.2 m.x.a m.x.p d 1 4 5 9
abbrev mkG2 (m : Mv) (d : Int) : Mk := inpM (mkG1 m d) m.y.k m.y.n.1 m.y.n.2.1 m.y.n.2.2 m.y.a m.y.p d 1 4 6 10
abbrev mkG3 (m : Mv) (d : Int) : Mk := outM (mkG2 m d) m.p 7
abbrev mkG4 (m : Mv) (d : Int) : Mk := outM (mkG3 m d) m.q 8
abbrev mkV1 (m : Mv) : Int := ((freshM (pubK (numsH m)) m.x.k).vals.length : Int)
abbrev mkV2 (m : Mv) (d : Int) : Int := ((freshM (mkG1 m d) m.y.k).vals.length : Int)
abbrev mkG5 (m : Mv) (d : Int) : Mk := linM (mkG4 m d) (sumS 0 1 [2, mkV1 m, mkV2 m d])
abbrev mkG6 (m : Mv) (d : Int) : Mk := linM (mkG5 m d) (sumS 0 1 [3, ((mkG2 m d).vals.length : Int), ((mkG3 m d).vals.length : Int)])
def makM (m : Mv) (d : Int) : Mk := sameM (mkG6 m d) (mkG4 m d).vals.length (mkG5 m d).vals.length
theorem numsH_w {m : Mv} (hm : wM m) : wV (numsH m) := by
  obtain ⟨w1, w2, w3, w4, _⟩ := hm
  intro v hv
  simp only [numsH, List.mem_cons, List.not_mem_nil, or_false] at hv
  rcases hv with rfl | rfl | rfl | rfl | rfl | rfl | rfl | rfl | rfl | rfl
  · exact w1
  · exact w2
  · exact w3
  · exact w4
  · exact manyH_w _
  · exact manyH_w _
  · exact manyH_w _
  · exact manyH_w _
  · exact (rAdd_l _ _).w
  · exact (rAdd_l _ _).w
end Go.Proofs.YtngphcdhdllnnaaGreat.E.M
end
