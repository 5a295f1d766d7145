/- gadget: a maker's methods: contracts over E. -/
import Derived.Test.YtiikiamdbelbjaaGad
import Derived.Test.YtiikiamdbelbjaaProg
import Derived.KernelRfl
set_option linter.unusedVariables false
set_option linter.unusedSimpArgs false
set_option maxRecDepth 10000
open Go Go.Proofs.Ytiikiamdbelbjaa.E Go.Proofs
namespace Go.Proofs.Ytiikiamdbelbjaa.E.M
theorem tok_len {L : List Tm} (h : tok L) : L.length < 1000000000 := by have := h.1; omega
set_option maxHeartbeats 1000000 in
theorem clone_own {L : List Tm} (hl : tok L) : Fn Try.prog 33 [slF tm L] [] (Tells (.ref 1000 0 L.length 2) [(1000, ⟨55, false, fm tm L⟩)]) := by
  refine Fn.enter Try.func33 Try.ntmps33 rfl (h := ?_)
  have tf := tfm
  have ot_ : (false || true) = true := rfl
  have tfr := tfr
  have lL := hl.1
  have lc : (fm tm L).length = L.length * 2 := fm_len tm_len _
  have a1 : L.length * 16 ≤ 140737488355328 := by omega
  have a2 : L.length ≤ 4611686018427387904 := by omega
  repeat refine AW.seq ?_
  refine AW.reg ?_
  iterate 1 refine AOL.s1 (h := ?_)
  refine AOL.nil ?_
  refine AW.kq [0] (h := ?_)
  repeat refine AW.seq ?_
  refine AW.reg ?_
  iterate 1 refine AOL.s1 (h := ?_)
  refine AOL.eqNil rfl (h := ?_)
  intro b hb
  refine AOL.nil ?_
  refine AW.kq [0, 4] (h := ?_)
  repeat refine AW.seq ?_
  refine AW.cond rfl (fun c_ => ?_) (fun c_ => ?_)
  · have hL : L = [] := List.eq_nil_of_length_eq_zero (hb (by simpa using c_))
    subst hL
    repeat refine AW.seq ?_
    refine AW.reg ?_
    iterate 1 refine AOL.s1 (h := ?_)
    refine AOL.nil ?_
    refine AW.kq [2] (h := ?_)
    repeat refine AW.seq ?_
    refine AW.blank 1000 55 (h := ?_)
    refine AW.wk 2 rfl (Wk.ref0 1000 2) (h := ?_)
    refine AW.ret ?_
    refine ⟨_, [(1000, _)], rfl, (fun p_ hp_ => by simp only [List.mem_singleton] at hp_; subst hp_; first | exact List.mem_cons_self | exact List.mem_cons_of_mem _ List.mem_cons_self | exact List.mem_cons_of_mem _ (List.mem_cons_of_mem _ List.mem_cons_self)), ?_⟩
    refine Tells.one 1000 (by decide) ?_
    first | rfl | exact frees_fm (fun _ => rfl) _ | exact a64_free _ | exact by8_free _
    skip
  refine AW.skip ?_
  repeat refine AW.seq ?_
  refine AW.reg ?_
  iterate 4 refine AOL.s1 (h := ?_)
  refine AOL.nil ?_
  refine AW.kq [2] (h := ?_)
  repeat refine AW.seq ?_
  refine AW.ret ?_
  refine ⟨_, [(1080, _)], rfl, (fun p_ hp_ => by simp only [List.mem_singleton] at hp_; subst hp_; first | exact List.mem_cons_self | exact List.mem_cons_of_mem _ List.mem_cons_self | exact List.mem_cons_of_mem _ (List.mem_cons_of_mem _ List.mem_cons_self)), ?_⟩
  refine Tells.one 1080 (by decide) ?_
  first | rfl | exact frees_fm (fun _ => rfl) _ | exact a64_free _ | exact by8_free _
  skip
theorem clone_fro {L : List Tm} (hl : tok L) : Fn Try.prog 33 [slF tm L] [] (fun r _ => r = slF tm L) := by
  have h := (clone_own hl).frozen (tm_free L)
  have e : frz 1000 (fm tm L) (.ref 1000 0 L.length 2) = slF tm L := by
    simp only [frz, if_true]
    rw [sub_all (by rw [fm_len tm_len]; exact Nat.le_refl _)]
  rwa [e] at h
set_option maxHeartbeats 1000000 in
theorem gadget_Maker_Private_c {m : Mk} {x : Int} (hm : Mok 1 m) (hx : w64 x) : Fn Try.prog 15 [.ptr 0 0, u x] [(0, mkB m 1 2), (1, rwB m.rows), (2, vlB m.vals)] (Tells (i m.vals.length) (mkOut (freshM m x))) := by
  refine Fn.enter Try.func15 Try.ntmps15 rfl (h := ?_)
  have tf := tfm
  have ot_ : (false || true) = true := rfl
  refine AW.mv 1 1001 (h := ?_)
  refine AW.mv 2 1002 (h := ?_)
  repeat refine AW.seq ?_
  refine AW.reg ?_
  iterate 1 refine AOL.s1 (h := ?_)
  refine AOL.nil ?_
  refine AW.kq [0, 1] (h := ?_)
  repeat refine AW.seq ?_
  refine AW.reg ?_
  iterate 2 refine AOL.s1 (h := ?_)
  refine AOL.callM (l := 0) (b := 1000) (gadget_Maker_fresh_c hm hx) rfl (by kernel_rfl) rfl rfl rfl rfl rfl (hst := by simp only [St.drops, St.drop, mapT, mapH, kill, kills, del, St.put, ins, reduceIte, Nat.reduceAdd, Nat.reduceLT, Nat.reduceEqDiff, Bool.false_eq_true]; exact rfl) ?_
  iterate 1 refine AOL.s1 (h := ?_)
  refine AOL.nil ?_
  refine AW.kq [4] (h := ?_)
  repeat refine AW.seq ?_
  refine AW.ret ?_
  refine ⟨_, mkOut (freshM m x), rfl, ?_, ?_⟩
  · exact fun p hp => hp
  · exact Tells.self
def pubM (m : Mk) (x : Int) : Mk := if m.v > m.p + 1 then m else freshM ⟨m.v, m.p + 1, m.rows, m.vals⟩ x
def pubI (m : Mk) : Int := if m.v > m.p + 1 then -1 else (m.vals.length : Int)
def pubE (m : Mk) : Value := if m.v > m.p + 1 then .iface 62 (.int .i64 1) else .nilIface
abbrev pubR (m : Mk) : List AV := [i (pubI m), .val (pubE m)]
set_option maxHeartbeats 1000000 in
theorem gadget_Maker_Public_c {m : Mk} {x : Int} (hm : Mok 1 m) (hx : w64 x) (hp : 0 ≤ m.p ∧ m.p < 1000000) : Fn Try.prog 10 [.ptr 0 0, u x] [(0, mkB m 1 2), (1, rwB m.rows), (2, vlB m.vals)] (Tells (.tup (pubR m)) (mkOut (pubM m x))) := by
  refine Fn.enter Try.func10 Try.ntmps10 rfl (h := ?_)
  have tf := tfm
  have ot_ : (false || true) = true := rfl
  have tfr := tfr
  have hw : IntKind.i64.wrap (m.p + 1) = m.p + 1 := wrapI_o (by omega) (by omega)
  refine AW.mv 1 1001 (h := ?_)
  refine AW.mv 2 1002 (h := ?_)
  repeat refine AW.seq ?_
  refine AW.reg ?_
  iterate 2 refine AOL.s1 (h := ?_)
  refine AOL.nil ?_
  refine AW.kq [0, 1] (h := ?_)
  repeat refine AW.seq ?_
  refine AW.drw 11 [] (by kernel_rfl) (h := ?_)
  iterate 11 refine ADL.dm 1 (h := ?_)
  refine ADL.done hmix rfl rfl (hT := ?_)
  iterate 1 refine AOL.s1 (h := ?_)
  refine AOL.nil ?_
  refine AW.kq [0, 1, 17] (h := ?_)
  repeat refine AW.seq ?_
  refine AW.cond rfl (fun c_ => ?_) (fun c_ => ?_)
  · have e1 : pubM m x = m := if_pos (by simpa using c_)
    have e2 : pubR m = [i (-1), er 1] := by unfold pubR pubI pubE; rw [if_pos (by simpa using c_), if_pos (by simpa using c_)]
    rw [e1, e2]
    repeat refine AW.seq ?_
    refine AW.reg ?_
    iterate 3 refine AOL.s1 (h := ?_)
    refine AOL.nil ?_
    refine AW.kq [4, 5] (h := ?_)
    repeat refine AW.seq ?_
    refine AW.ret ?_
    refine ⟨_, mkOut m, rfl, ?_, ?_⟩
    · exact fun p hp => hp
    · exact Tells.self
  have e1 : pubM m x = freshM ⟨m.v, m.p + 1, m.rows, m.vals⟩ x := if_neg (by simp at c_; omega)
  have e2 : pubR m = [i m.vals.length, nil_] := by unfold pubR pubI pubE; rw [if_neg (by simp at c_; omega), if_neg (by simp at c_; omega)]
  rw [e1, e2]
  refine AW.skip ?_
  repeat refine AW.seq ?_
  refine AW.reg ?_
  iterate 10 refine AOL.s1 (h := ?_)
  refine AOL.nil ?_
  refine AW.kq [0, 1] (h := ?_)
  repeat refine AW.seq ?_
  refine AW.reg ?_
  iterate 2 refine AOL.s1 (h := ?_)
  refine AOL.callM (l := 0) (b := 1000) (gadget_Maker_fresh_c (m := ⟨m.v, m.p + 1, m.rows, m.vals⟩) hm hx) rfl (by kernel_rfl) rfl rfl rfl rfl rfl (hst := by simp only [St.drops, St.drop, mapT, mapH, kill, kills, del, St.put, ins, reduceIte, Nat.reduceAdd, Nat.reduceLT, Nat.reduceEqDiff, Bool.false_eq_true]; exact rfl) ?_
  iterate 2 refine AOL.s1 (h := ?_)
  refine AOL.nil ?_
  refine AW.kq [4, 5] (h := ?_)
  repeat refine AW.seq ?_
  refine AW.ret ?_
  refine ⟨_, mkOut (freshM ⟨m.v, m.p + 1, m.rows, m.vals⟩ x), rfl, ?_, ?_⟩
  · exact fun p hp => hp
  · exact Tells.self
def valM (V : List Int) (a : Int) : Int := V[(isM V a).toNat]?.getD 0
set_option maxHeartbeats 1000000 in
theorem gadget_Maker_Value_f {m : Mk} {a : Int} (hv : wV m.vals) (h0 : 0 < m.vals.length) : Fn Try.prog 17 [.fptr [i m.v, i m.p, slF rw_ m.rows, ul m.vals], i a] [] (fun r h_ => r = u (valM m.vals a)) := by
  refine Fn.enter Try.func17 Try.ntmps17 rfl (h := ?_)
  have tf := tfm
  have ot_ : (false || true) = true := rfl
  have tfr := tfr
  have cI := gadget_Maker_is_f (m := m) (a := a)
  obtain ⟨j0, j1⟩ := isM_in h0 a
  obtain ⟨n, hn⟩ : ∃ n : Nat, isM m.vals a = n := ⟨(isM m.vals a).toNat, by omega⟩
  have hV : valM m.vals a = m.vals[n]?.getD 0 := by unfold valM; rw [hn]; rfl
  rw [hn] at cI j0 j1
  obtain ⟨v, hv1, hv2, hv3⟩ := at_nat j1 hv
  rw [hV, hv1]
  clear hn hV
  repeat refine AW.seq ?_
  refine AW.reg ?_
  iterate 1 refine AOL.s1 (h := ?_)
  refine AOL.nil ?_
  refine AW.kq [0, 1] (h := ?_)
  repeat refine AW.seq ?_
  refine AW.drw 7 [] (by kernel_rfl) (h := ?_)
  iterate 6 refine ADL.dm 1 (h := ?_)
  refine ADL.call rfl (cI) (by kernel_rfl) rfl rfl (h := ?_)
  refine ADL.done hmix rfl rfl (hT := ?_)
  iterate 3 refine AOL.s1 (h := ?_)
  refine AOL.nil ?_
  refine AW.kq [4] (h := ?_)
  repeat refine AW.seq ?_
  refine AW.ret ?_
  refine ⟨_, [], rfl, HOk.nil _, ?_⟩
  rfl
theorem valF_c {h : List (Nat × Blk)} {m : Mk} {l lr lv : Nat} {a : Int} (hv : wV m.vals) (h3 : 0 < m.vals.length) (h0 : get? l h = some (mkB m lr lv)) (h1 : get? lr h = some (rwB m.rows)) (h2 : get? lv h = some (vlB m.vals)) (hne : lr ≠ lv ∧ lr ≠ l ∧ lv ≠ l := by decide) :
    CallF Try.prog h [.ptr l 0, i a] 17 (u (valM m.vals a)) := by
  have e : frzL [(lr, fm rw_ m.rows), (lv, fm u1 m.vals), (l, [i m.v, i m.p, slF rw_ m.rows, ul m.vals])] [.ptr l 0, i a] = [.fptr [i m.v, i m.p, slF rw_ m.rows, ul m.vals], i a] := by
    simp only [frzL, List.foldl_cons, List.foldl_nil, frzs, frz, if_true, if_neg hne.2.1.symm, if_neg hne.2.2.symm, List.drop_zero]
  refine .inr ⟨[(lr, fm rw_ m.rows), (lv, fm u1 m.vals), (l, [i m.v, i m.p, slF rw_ m.rows, ul m.vals])], _, rfl, ⟨⟨_, h1, .inl ⟨rfl, rfl⟩⟩, ⟨_, h2, .inl ⟨rfl, rfl⟩⟩, ⟨_, h0, .inr ⟨frz_mk m hne.1, rfl⟩⟩, trivial⟩, ?_, ?_⟩
  · rw [e]; rfl
  · rw [e]; exact gadget_Maker_Value_f hv h3
abbrev one1 (v : Int) : List Tm := [⟨v, 1⟩]
theorem w64_1 : w64 1 := by decide
theorem tok_1 (v : Int) : tok (one1 v) := ⟨by simp, fun t ht => by simp only [List.mem_singleton] at ht; subst ht; exact w64_1⟩
theorem val_w (V : List Int) (L : List Tm) : w64 (valF V 0 L) := valF_w L (by decide)
def prodM (m : Mk) (a b : List Tm) : Mk := rowM (freshM m (valF m.vals 0 a * valF m.vals 0 b % 288230376287764481)) a b (one1 m.vals.length)
theorem Mok.prod {k : Nat} {m : Mk} (h : Mok (k + 2) m) (a b : List Tm) : Mok k (prodM m a b) := (Mok.fresh h _).row _ _ _
set_option maxHeartbeats 1000000 in
theorem gadget_Maker_product_c {m : Mk} {a b : List Tm} (hm : Mok 2 m) (ha : tok a) (hb : tok b) : Fn Try.prog 30 [.ptr 0 0, slF tm a, slF tm b] [(0, mkB m 1 2), (1, rwB m.rows), (2, vlB m.vals)] (Tells (i m.vals.length) (mkOut (prodM m a b))) := by
  refine Fn.enter Try.func30 Try.ntmps30 rfl (h := ?_)
  have tf := tfm
  have ot_ : (false || true) = true := rfl
  have tfr := tfr
  have hv := hm.2.2.1
  have cM := modular_Mul_c hR (val_w m.vals a) (val_w m.vals b)
  have cF := gadget_Maker_fresh_c (Mok.mono hm (by decide)) (w64_r (valF m.vals 0 a * valF m.vals 0 b))
  have cR := gadget_Maker_row_c (Mok.fresh hm (valF m.vals 0 a * valF m.vals 0 b % 288230376287764481)) ha hb (tok_1 m.vals.length)
  refine AW.mv 1 1001 (h := ?_)
  refine AW.mv 2 1002 (h := ?_)
  repeat refine AW.seq ?_
  refine AW.reg ?_
  iterate 1 refine AOL.s1 (h := ?_)
  refine AOL.nil ?_
  refine AW.kq [0, 1, 2] (h := ?_)
  repeat refine AW.seq ?_
  refine AW.drw 14 [] (by kernel_rfl) (h := ?_)
  iterate 6 refine ADL.dm 1 (h := ?_)
  refine ADL.callF rfl (valC (tok_len ha) hv ha.2 rfl) (by kernel_rfl) (h := ?_)
  iterate 5 refine ADL.dm 1 (h := ?_)
  refine ADL.callF rfl (valC (tok_len hb) hv hb.2 rfl) (by kernel_rfl) (h := ?_)
  refine ADL.call rfl (cM) (by kernel_rfl) rfl rfl (h := ?_)
  refine ADL.done hmix rfl rfl (hT := ?_)
  refine AOL.callM (l := 0) (b := 1000) (cF) rfl (by kernel_rfl) rfl rfl rfl rfl rfl (hst := by simp only [St.drops, St.drop, mapT, mapH, kill, kills, del, St.put, ins, reduceIte, Nat.reduceAdd, Nat.reduceLT, Nat.reduceEqDiff, Bool.false_eq_true]; exact rfl) ?_
  iterate 1 refine AOL.s1 (h := ?_)
  refine AOL.nil ?_
  refine AW.kq [0, 1, 2, 7] (h := ?_)
  repeat refine AW.seq ?_
  refine AW.reg ?_
  iterate 4 refine AOL.s1 (h := ?_)
  refine AOL.callD rfl (gadget_just_c) (by kernel_rfl) rfl rfl (h := ?_)
  refine AOL.callM (l := 0) (b := 1000) (cR) rfl (by kernel_rfl) rfl rfl rfl rfl rfl (hst := by simp only [St.drops, St.drop, mapT, mapH, kill, kills, del, St.put, ins, reduceIte, Nat.reduceAdd, Nat.reduceLT, Nat.reduceEqDiff, Bool.false_eq_true]; exact rfl) ?_
  refine AOL.nil ?_
  refine AW.kq [7] (h := ?_)
  repeat refine AW.seq ?_
  refine AW.reg ?_
  iterate 2 refine AOL.s1 (h := ?_)
  refine AOL.nil ?_
  refine AW.kq [6] (h := ?_)
  repeat refine AW.seq ?_
  refine AW.ret ?_
  refine ⟨_, mkOut (prodM m a b), rfl, ?_, ?_⟩
  · exact fun p hp => hp
  · exact Tells.self
abbrev two1 (v w k : Int) : List Tm := [⟨v, 1⟩, ⟨w, k⟩]
theorem tok_2 {v w k : Int} (hk : w64 k) : tok (two1 v w k) := by
  refine ⟨by simp, fun t ht => ?_⟩
  simp only [List.mem_cons, List.not_mem_nil, or_false] at ht
  rcases ht with rfl | rfl
  · exact w64_1
  · exact hk
theorem w64_m1 : w64 288230376287764480 := by decide
abbrev isMk (m : Mk) (a : Int) : Int := isM m.vals a
def mulM (m : Mk) (a b : Int) : Mk := prodM m (one1 (isMk m a)) (one1 (isMk m b))
set_option maxHeartbeats 1000000 in
theorem gadget_Maker_Mul_c {m : Mk} {a b : Int} (hm : Mok 2 m) : Fn Try.prog 25 [.ptr 0 0, i a, i b] [(0, mkB m 1 2), (1, rwB m.rows), (2, vlB m.vals)] (Tells (i m.vals.length) (mkOut (mulM m a b))) := by
  refine Fn.enter Try.func25 Try.ntmps25 rfl (h := ?_)
  have tf := tfm
  have ot_ : (false || true) = true := rfl
  have tfr := tfr
  refine AW.mv 1 1001 (h := ?_)
  refine AW.mv 2 1002 (h := ?_)
  repeat refine AW.seq ?_
  refine AW.reg ?_
  iterate 1 refine AOL.s1 (h := ?_)
  refine AOL.nil ?_
  refine AW.kq [0, 1, 2] (h := ?_)
  repeat refine AW.seq ?_
  refine AW.reg ?_
  iterate 3 refine AOL.s1 (h := ?_)
  refine AOL.callF rfl (isF rfl rfl rfl) (by kernel_rfl) (h := ?_)
  refine AOL.callD rfl (gadget_just_c) (by kernel_rfl) rfl rfl (h := ?_)
  iterate 2 refine AOL.s1 (h := ?_)
  refine AOL.callF rfl (isF rfl rfl rfl) (by kernel_rfl) (h := ?_)
  refine AOL.callD rfl (gadget_just_c) (by kernel_rfl) rfl rfl (h := ?_)
  refine AOL.callM (l := 0) (b := 1000) (gadget_Maker_product_c hm (tok_1 (isMk m a)) (tok_1 (isMk m b))) rfl (by kernel_rfl) rfl rfl rfl rfl rfl (hst := by simp only [St.drops, St.drop, mapT, mapH, kill, kills, del, St.put, ins, reduceIte, Nat.reduceAdd, Nat.reduceLT, Nat.reduceEqDiff, Bool.false_eq_true]; exact rfl) ?_
  iterate 1 refine AOL.s1 (h := ?_)
  refine AOL.nil ?_
  refine AW.kq [6] (h := ?_)
  repeat refine AW.seq ?_
  refine AW.ret ?_
  refine ⟨_, mkOut (mulM m a b), rfl, ?_, ?_⟩
  · exact fun p hp => hp
  · exact Tells.self
def sameM (m : Mk) (a b : Int) : Mk := rowM m (two1 (isMk m a) (isMk m b) 288230376287764480) (one1 0) []
theorem tok_0 : tok [] := ⟨by simp, fun t ht => by cases ht⟩
theorem row_nil {m : Mk} {a b : List Tm} (hm : Mok 1 m) (ha : tok a) (hb : tok b) : Fn Try.prog 47 [.ptr 0 0, slF tm a, slF tm b, .val (.slice none 0 0)] [(0, mkB m 1 2), (1, rwB m.rows), (2, vlB m.vals)] (Tells (.tup []) (mkOut (rowM m a b []))) :=
  (gadget_Maker_row_c hm ha hb tok_0).wk (Wks.cons (Wk.refl _) (Wks.cons (Wk.refl _) (Wks.cons (Wk.refl _) (Wks.cons Wk.nilS Wks.nil))))
set_option maxHeartbeats 1000000 in
theorem gadget_Maker_Same_c {m : Mk} {a b : Int} (hm : Mok 1 m) : Fn Try.prog 43 [.ptr 0 0, i a, i b] [(0, mkB m 1 2), (1, rwB m.rows), (2, vlB m.vals)] (Tells (.tup []) (mkOut (sameM m a b))) := by
  refine Fn.enter Try.func43 Try.ntmps43 rfl (h := ?_)
  have tf := tfm
  have ot_ : (false || true) = true := rfl
  have tfr := tfr
  refine AW.mv 1 1001 (h := ?_)
  refine AW.mv 2 1002 (h := ?_)
  repeat refine AW.seq ?_
  refine AW.reg ?_
  iterate 3 refine AOL.s1 (h := ?_)
  refine AOL.callF rfl (isF rfl rfl rfl) (by kernel_rfl) (h := ?_)
  refine AOL.callD rfl (gadget_one_c) (by kernel_rfl) rfl rfl (h := ?_)
  iterate 2 refine AOL.s1 (h := ?_)
  refine AOL.callF rfl (isF rfl rfl rfl) (by kernel_rfl) (h := ?_)
  refine AOL.callD rfl (gadget_one_c) (by kernel_rfl) rfl rfl (h := ?_)
  iterate 1 refine AOL.s1 (h := ?_)
  refine AOL.fz 1240 rfl (fun h => by cases h) (h := ?_)
  refine AOL.callD rfl (gadget_just_c) (by kernel_rfl) rfl rfl (h := ?_)
  refine AOL.callM (l := 0) (b := 1000) (row_nil (a := two1 (isMk m a) (isMk m b) 288230376287764480) hm (tok_2 w64_m1) (tok_1 0)) rfl (by kernel_rfl) rfl rfl rfl rfl rfl (hst := by simp only [St.drops, St.drop, mapT, mapH, kill, kills, del, St.put, ins, reduceIte, Nat.reduceAdd, Nat.reduceLT, Nat.reduceEqDiff, Bool.false_eq_true]; exact rfl) ?_
  refine AOL.nil ?_
  refine ⟨_, mkOut (sameM m a b), rfl, ?_, ?_⟩
  · exact fun p hp => hp
  · exact Tells.self
def ownT (V : List Int) (L : List Tm) : List Tm := L.map fun t => ⟨isM V t.v, t.k⟩
theorem tok_own {V : List Int} {L : List Tm} (h : tok L) : tok (ownT V L) := by
  refine ⟨by simp only [ownT, List.length_map]; exact h.1, fun t ht => ?_⟩
  obtain ⟨s, hs, rfl⟩ := List.mem_map.1 ht
  exact h.2 s hs
def linM (m : Mk) (L : List Tm) : Mk := rowM (freshM m (valF m.vals 0 (ownT m.vals L))) (ownT m.vals L) (one1 0) (one1 m.vals.length)
theorem Mok.lin {k : Nat} {m : Mk} (h : Mok (k + 2) m) (L : List Tm) : Mok k (linM m L) := (Mok.fresh h _).row _ _ _
theorem own_at (V : List Int) {L : List Tm} {k : Nat} (h : k < L.length) : (ownT V (L.take k) ++ L.drop k)[k]? = some L[k] := by
  rw [List.getElem?_append_right (by simp [ownT]; omega)]
  simp [ownT, Nat.min_eq_left (Nat.le_of_lt h), h]
theorem own_set (V : List Int) {L : List Tm} {k : Nat} (h : k < L.length) : (fm tm (ownT V (L.take k) ++ L.drop k)).set (k * 2) (i (isM V L[k].v)) = fm tm (ownT V (L.take (k + 1)) ++ L.drop (k + 1)) := by
  have hl : (ownT V (L.take k)).length = k := by simp [ownT]; omega
  rw [List.drop_eq_getElem_cons h, List.take_add_one, List.getElem?_eq_getElem h]
  simp only [ownT, List.map_append, Option.toList_some, List.map_cons, List.map_nil, fm_app, List.append_assoc]
  rw [List.set_append_right _ _ (by rw [fm_len tm_len, List.length_map, List.length_take]; omega), fm_len tm_len, List.length_map, List.length_take]
  rw [show k * 2 - min k L.length * 2 = 0 by omega]
  rfl
set_option maxHeartbeats 4000000 in
theorem gadget_Maker_Linear_c {m : Mk} {L : List Tm} (hm : Mok 2 m) (hL : tok L) : Fn Try.prog 32 [.ptr 0 0, slF tm L] [(0, mkB m 1 2), (1, rwB m.rows), (2, vlB m.vals)] (Tells (i m.vals.length) (mkOut (linM m L))) := by
  refine Fn.enter Try.func32 Try.ntmps32 rfl (h := ?_)
  have tf := tfm
  have ot_ : (false || true) = true := rfl
  have tfr := tfr
  have lL := hL.1
  have hv := hm.2.2.1
  have cF := gadget_Maker_fresh_c (Mok.mono hm (by decide)) (val_w m.vals (ownT m.vals L))
  have cR := gadget_Maker_row_c (Mok.fresh hm (valF m.vals 0 (ownT m.vals L))) (tok_own (V := m.vals) hL) (tok_1 0) (tok_1 m.vals.length)
  have hn : (ownT m.vals L).length = L.length := by simp [ownT]
  refine AW.mv 1 1001 (h := ?_)
  refine AW.mv 2 1002 (h := ?_)
  repeat refine AW.seq ?_
  refine AW.reg ?_
  iterate 1 refine AOL.s1 (h := ?_)
  refine AOL.nil ?_
  refine AW.kq [0, 1] (h := ?_)
  repeat refine AW.seq ?_
  refine AW.reg ?_
  iterate 1 refine AOL.s1 (h := ?_)
  refine AOL.callO 1144 (clone_own hL) rfl (by kernel_rfl) rfl (by first | rfl | exact frees_fm (fun _ => rfl) _ | exact a64_free _ | exact by8_free _) (by intro l_ hl_; simp [labs, labss] at hl_ <;> exact hl_) (by decide) (by simp only [St.drop, mapT, mapH, kill, kills, del, St.put, ins, ren, rens, reduceIte, Nat.reduceLT, Nat.reduceEqDiff, Bool.false_eq_true]; exact rfl) ?_
  iterate 1 refine AOL.s1 (h := ?_)
  refine AOL.nil ?_
  refine AW.kq [0, 5] (h := ?_)
  repeat refine AW.seq ?_
  refine AW.reg ?_
  iterate 3 refine AOL.s1 (h := ?_)
  refine AOL.nil ?_
  refine AW.kq [0, 5, 11, 12] (h := ?_)
  repeat refine AW.seq ?_
  refine AW.block ?_
  repeat refine AW.seq ?_
  refine AW.loopK [0, 5, 11, 12] (fun n s => ∃ (k : Nat) (M : List Tm), s = ⟨42, [(0, .ptr 0 0), (5, .ref 1144 0 L.length 2), (11, i L.length), (12, i k)], [(0, mkB m 1001 1002), (1001, rwB m.rows), (1002, vlB m.vals), (1144, ⟨55, false, fm tm M⟩)]⟩ ∧ k ≤ L.length ∧ n = L.length - k ∧ id (M = ownT m.vals (L.take k) ++ L.drop k)) (L.length) ?_ ?_
  · exact ⟨0, L, rfl, Nat.zero_le _, rfl, rfl⟩
  rintro n s ⟨k, M, rfl, hkl, rfl, hM⟩
  repeat refine AW.seq ?_
  refine AW.reg ?_
  iterate 1 refine AOL.s1 (h := ?_)
  refine AOL.nil ?_
  refine AW.kq [0, 5, 11, 12, 13] (h := ?_)
  repeat refine AW.seq ?_
  refine AW.cond rfl (fun c_ => ?_) (fun c_ => ?_)
  · have h1 : k < L.length := by simpa using c_
    have k0 : (0:Int) ≤ k := by omega
    have k1 : (k:Int) < L.length := by omega
    have hw := incq h1 (tok_len hL)
    have hd : (fm tm M).drop (k * 2) = i L[k].v :: u L[k].k :: fm tm (M.drop (k + 1)) := tm_at (by rw [show M = _ from hM]; exact own_at m.vals h1)
    have hlM : (fm tm M).length = L.length * 2 := by rw [fm_len tm_len, show M = _ from hM]; simp [ownT]; omega
    have hb : k * 2 + 1 ≤ L.length * 2 := by omega
    have hst : (fm tm M).set (k * 2) (i (isM m.vals L[k].v)) = fm tm (ownT m.vals (L.take (k + 1)) ++ L.drop (k + 1)) := by rw [show M = _ from hM]; exact own_set m.vals h1
    clear hM c_
    generalize L[k] = t at *
    obtain ⟨tv, tk⟩ := t
    refine AW.skip ?_
    repeat refine AW.seq ?_
    refine AW.block ?_
    repeat refine AW.seq ?_
    refine AW.reg ?_
    iterate 2 refine AOL.s1 (h := ?_)
    refine AOL.nil ?_
    refine AW.kq [0, 5, 6, 11, 12] (h := ?_)
    repeat refine AW.seq ?_
    refine AW.reg ?_
    iterate 8 refine AOL.s1 (h := ?_)
    refine AOL.callF rfl (isF rfl rfl rfl) (by kernel_rfl) (h := ?_)
    iterate 3 refine AOL.s1 (h := ?_)
    refine AOL.nil ?_
    repeat refine AW.seq ?_
    refine AW.reg ?_
    iterate 2 refine AOL.s1 (h := ?_)
    refine AOL.nil ?_
    refine ⟨L.length - (k + 1), by omega, k + 1, _, by rw [← hst]; rfl, h1, rfl, rfl⟩
  · have hk : k = L.length := by simp at c_; omega
    subst hk
    rw [List.take_of_length_le (Nat.le_refl _), List.drop_of_length_le (Nat.le_refl _), List.append_nil] at hM
    obtain rfl : M = ownT m.vals L := hM
    have hfz : AV.sl L.length (sub 0 (L.length * 2) (fm tm (ownT m.vals L))) = slF tm (ownT m.vals L) := by
      rw [sub_all (by rw [fm_len tm_len, hn]; exact Nat.le_refl _)]
      show AV.sl _ _ = AV.sl _ _
      rw [hn]
    refine AW.fz 1144 rfl (fun h => by cases h) (h := ?_)
    rw [hfz]
    clear hn hfz
    repeat refine AW.seq ?_
    refine AW.exit ?_
    repeat (first | refine Kseq.ex ?_ | refine Kloop.ex ?_ | refine Kblock.miss (by decide) ?_)
    refine Kblock.hit ?_
    refine AW.kq [0, 5] (h := ?_)
    repeat refine AW.seq ?_
    refine AW.reg ?_
    iterate 6 refine AOL.s1 (h := ?_)
    refine AOL.callF rfl (valC (tok_len (tok_own hL)) hv (tok_own hL).2 rfl) (by kernel_rfl) (h := ?_)
    refine AOL.callM (l := 0) (b := 1000) (cF) rfl (by kernel_rfl) rfl rfl rfl rfl rfl (hst := by simp only [St.drops, St.drop, mapT, mapH, kill, kills, del, St.put, ins, reduceIte, Nat.reduceAdd, Nat.reduceLT, Nat.reduceEqDiff, Bool.false_eq_true]; exact rfl) ?_
    iterate 1 refine AOL.s1 (h := ?_)
    refine AOL.nil ?_
    refine AW.kq [0, 5, 7] (h := ?_)
    repeat refine AW.seq ?_
    refine AW.reg ?_
    iterate 2 refine AOL.s1 (h := ?_)
    refine AOL.callD rfl (gadget_just_c) (by kernel_rfl) rfl rfl (h := ?_)
    iterate 1 refine AOL.s1 (h := ?_)
    refine AOL.callD rfl (gadget_just_c) (by kernel_rfl) rfl rfl (h := ?_)
    refine AOL.callM (l := 0) (b := 1000) (cR) rfl (by kernel_rfl) rfl rfl rfl rfl rfl (hst := by simp only [St.drops, St.drop, mapT, mapH, kill, kills, del, St.put, ins, reduceIte, Nat.reduceAdd, Nat.reduceLT, Nat.reduceEqDiff, Bool.false_eq_true]; exact rfl) ?_
    refine AOL.nil ?_
    refine AW.kq [7] (h := ?_)
    repeat refine AW.seq ?_
    refine AW.reg ?_
    iterate 2 refine AOL.s1 (h := ?_)
    refine AOL.nil ?_
    refine AW.kq [4] (h := ?_)
    repeat refine AW.seq ?_
    refine AW.ret ?_
    refine ⟨_, mkOut (linM m L), rfl, ?_, ?_⟩
    · exact fun p hp => hp
    · exact Tells.self
def choM (m : Mk) (c a b : Int) : Mk :=
  rowM (freshM m ((valM m.vals b + valM m.vals c * valF m.vals 0 (sumT (two1 (isMk m a) (isMk m b) 288230376287764480)) % 288230376287764481) % 288230376287764481)) (one1 (isMk m c)) (two1 (isMk m a) (isMk m b) 288230376287764480) (two1 m.vals.length (isMk m b) 288230376287764480)
theorem Mok.cho {k : Nat} {m : Mk} (h : Mok (k + 2) m) (c a b : Int) : Mok k (choM m c a b) := (Mok.fresh h _).row _ _ _
theorem valM_at {V : List Int} (hv : wV V) (h0 : 0 < V.length) (a : Int) : ∃ n : Nat, isM V a = n ∧ (n:Int) < V.length ∧ (fm u1 V).drop n = u (valM V a) :: fm u1 (V.drop (n + 1)) ∧ w64 (valM V a) := by
  obtain ⟨j0, j1⟩ := isM_in h0 a
  obtain ⟨n, hn⟩ : ∃ n : Nat, isM V a = n := ⟨(isM V a).toNat, by omega⟩
  have hV : valM V a = V[n]?.getD 0 := by unfold valM; rw [hn]; rfl
  rw [hn] at j1
  obtain ⟨v, hv1, hv2, hv3⟩ := at_nat j1 hv
  refine ⟨n, hn, j1, ?_, ?_⟩
  · rw [hV, hv1]; exact hv3
  · rw [hV, hv1]; exact hv2
theorem sumT_w (L : List Tm) : wT (sumT L) := fun t ht => by have := (sumT_is L).pos t ht; exact ⟨by omega, by omega⟩
theorem sumT_len (L : List Tm) : (sumT L).length ≤ L.length := by
  have h1 : ∀ (r : List Tm) (p : Option Int) (out : List Tm), (accS p out r).length ≤ out.length + r.length := by
    intro r
    induction r with
    | nil => intro p out; simp [accS]
    | cons t r ih =>
      intro p out
      simp only [accS]
      split
      · have := ih (some t.v) out; simp only [List.length_cons]; omega
      · refine Nat.le_trans (ih _ _) ?_
        rw [addL_len]
        split
        · simp only [List.length_cons]; omega
        · simp only [List.length_append, List.length_cons, List.length_nil]; omega
  have h2 : (sumT L).length ≤ (accS none [] (srt L)).length := List.length_filter_le _ _
  have h3 := h1 (srt L) none []
  rw [(srt_perm L).length_eq] at h3
  simp at h3; omega
set_option maxHeartbeats 4000000 in
theorem gadget_Maker_Choose_c {m : Mk} {c a b : Int} (hm : Mok 2 m) : Fn Try.prog 42 [.ptr 0 0, i c, i a, i b] [(0, mkB m 1 2), (1, rwB m.rows), (2, vlB m.vals)] (Tells (i m.vals.length) (mkOut (choM m c a b))) := by
  refine Fn.enter Try.func42 Try.ntmps42 rfl (h := ?_)
  have tf := tfm
  have ot_ : (false || true) = true := rfl
  have tfr := tfr
  have hv := hm.2.2.1
  obtain ⟨nc, hc1, hc2, hc3, hc4⟩ := valM_at hv hm.2.2.2 c
  obtain ⟨nb, hb1, hb2, hb3, hb4⟩ := valM_at hv hm.2.2.2 b
  have lT := tok_2 (v := isMk m a) (w := nb) w64_m1
  have cS := rank_Sum_c (tok_len lT) lT.2
  have hL := tok_len lT
  have hS : (sumT (two1 (isMk m a) (nb) 288230376287764480)).length < 1000000000 := Nat.lt_of_le_of_lt (sumT_len _) hL
  have hW := sumT_w (two1 (isMk m a) (nb) 288230376287764480)
  have cM := modular_Mul_c hR hc4 (val_w m.vals (sumT (two1 (isMk m a) (nb) 288230376287764480)))
  have cA := modular_Add_c hR hb4 (w64_r (valM m.vals c * valF m.vals 0 (sumT (two1 (isMk m a) (nb) 288230376287764480))))
  have cF := gadget_Maker_fresh_c (Mok.mono hm (by decide)) (w64_r (valM m.vals b + valM m.vals c * valF m.vals 0 (sumT (two1 (isMk m a) (nb) 288230376287764480)) % 288230376287764481))
  have cR := gadget_Maker_row_c (Mok.fresh hm ((valM m.vals b + valM m.vals c * valF m.vals 0 (sumT (two1 (isMk m a) (nb) 288230376287764480)) % 288230376287764481) % 288230376287764481)) (tok_1 (nc)) lT (tok_2 (v := m.vals.length) (w := nb) w64_m1)
  have e : choM m c a b = rowM (freshM m ((valM m.vals b + valM m.vals c * valF m.vals 0 (sumT (two1 (isMk m a) nb 288230376287764480)) % 288230376287764481) % 288230376287764481)) (one1 nc) (two1 (isMk m a) nb 288230376287764480) (two1 m.vals.length nb 288230376287764480) := by
    unfold choM isMk; rw [hb1, hc1]
  rw [e]
  replace e : id (_ = _) := e
  refine AW.mv 1 1001 (h := ?_)
  refine AW.mv 2 1002 (h := ?_)
  repeat refine AW.seq ?_
  refine AW.reg ?_
  iterate 1 refine AOL.s1 (h := ?_)
  refine AOL.nil ?_
  refine AW.kq [0, 1, 2, 3] (h := ?_)
  repeat refine AW.seq ?_
  refine AW.reg ?_
  iterate 2 refine AOL.s1 (h := ?_)
  refine AOL.callF rfl (isF rfl rfl rfl) (by kernel_rfl) (h := ?_)
  iterate 2 refine AOL.s1 (h := ?_)
  refine AOL.callF rfl (isF rfl rfl rfl) (by kernel_rfl) (h := ?_)
  iterate 2 refine AOL.s1 (h := ?_)
  refine AOL.callF rfl (isF rfl rfl rfl) (by kernel_rfl) (h := ?_)
  iterate 3 refine AOL.s1 (h := ?_)
  refine AOL.nil ?_
  refine AW.kq [0, 1, 2, 3] (h := ?_)
  repeat refine AW.seq ?_
  refine AW.reg ?_
  iterate 1 refine AOL.s1 (h := ?_)
  refine AOL.callD rfl (gadget_one_c) (by kernel_rfl) rfl rfl (h := ?_)
  iterate 1 refine AOL.s1 (h := ?_)
  refine AOL.callD rfl (gadget_one_c) (by kernel_rfl) rfl rfl (h := ?_)
  iterate 1 refine AOL.s1 (h := ?_)
  refine AOL.fz 1400 rfl (fun h => by cases h) (h := ?_)
  iterate 1 refine AOL.s1 (h := ?_)
  refine AOL.nil ?_
  refine AW.kq [0, 1, 3, 9] (h := ?_)
  repeat refine AW.seq ?_
  refine AW.drw 14 [] (by kernel_rfl) (h := ?_)
  iterate 8 refine ADL.dm 1 (h := ?_)
  refine ADL.call rfl (cS) (by kernel_rfl) rfl rfl (h := ?_)
  iterate 4 refine ADL.dm 1 (h := ?_)
  refine ADL.callF rfl (valC hS hv hW rfl) (by kernel_rfl) (h := ?_)
  refine ADL.done hmix rfl rfl (hT := ?_)
  refine AOL.callD rfl (cM) (by kernel_rfl) rfl rfl (h := ?_)
  iterate 1 refine AOL.s1 (h := ?_)
  refine AOL.nil ?_
  refine AW.kq [0, 1, 3, 9, 10] (h := ?_)
  repeat refine AW.seq ?_
  refine AW.reg ?_
  iterate 9 refine AOL.s1 (h := ?_)
  refine AOL.callD rfl (cA) (by kernel_rfl) rfl rfl (h := ?_)
  refine AOL.callM (l := 0) (b := 1000) (cF) rfl (by kernel_rfl) rfl rfl rfl rfl rfl (hst := by simp only [St.drops, St.drop, mapT, mapH, kill, kills, del, St.put, ins, reduceIte, Nat.reduceAdd, Nat.reduceLT, Nat.reduceEqDiff, Bool.false_eq_true]; exact rfl) ?_
  iterate 1 refine AOL.s1 (h := ?_)
  refine AOL.nil ?_
  refine AW.kq [0, 1, 3, 9, 11] (h := ?_)
  repeat refine AW.seq ?_
  refine AW.reg ?_
  iterate 2 refine AOL.s1 (h := ?_)
  refine AOL.callD rfl (gadget_just_c) (by kernel_rfl) rfl rfl (h := ?_)
  iterate 2 refine AOL.s1 (h := ?_)
  refine AOL.callD rfl (gadget_one_c) (by kernel_rfl) rfl rfl (h := ?_)
  iterate 1 refine AOL.s1 (h := ?_)
  refine AOL.callD rfl (gadget_one_c) (by kernel_rfl) rfl rfl (h := ?_)
  iterate 1 refine AOL.s1 (h := ?_)
  refine AOL.fz 1960 rfl (fun h => by cases h) (h := ?_)
  refine AOL.callM (l := 0) (b := 1000) (cR) rfl (by kernel_rfl) rfl rfl rfl rfl rfl (hst := by simp only [St.drops, St.drop, mapT, mapH, kill, kills, del, St.put, ins, reduceIte, Nat.reduceAdd, Nat.reduceLT, Nat.reduceEqDiff, Bool.false_eq_true]; exact rfl) ?_
  refine AOL.nil ?_
  refine AW.kq [11] (h := ?_)
  repeat refine AW.seq ?_
  refine AW.reg ?_
  iterate 2 refine AOL.s1 (h := ?_)
  refine AOL.nil ?_
  refine AW.kq [8] (h := ?_)
  repeat refine AW.seq ?_
  refine AW.ret ?_
  refine ⟨_, mkOut (rowM (freshM m ((valM m.vals b + valM m.vals c * valF m.vals 0 (sumT (two1 (isMk m a) nb 288230376287764480)) % 288230376287764481) % 288230376287764481)) (one1 nc) (two1 (isMk m a) nb 288230376287764480) (two1 m.vals.length nb 288230376287764480)), rfl, ?_, ?_⟩
  · exact fun p hp => hp
  · exact Tells.self
end Go.Proofs.Ytiikiamdbelbjaa.E.M

