/- gadget: a maker in memory, and its small methods: contracts over E. -/
import Derived.Test.YtiikiamdbelbjaaEK
import Derived.Test.YtiikiamdbelbjaaSm
import Derived.Test.YtiikiamdbelbjaaQapC
import Derived.Test.YtiikiamdbelbjaaProg
import Derived.KernelRfl
set_option linter.unusedVariables false
set_option linter.unusedSimpArgs false
set_option maxRecDepth 10000
open Go Go.Proofs.Ytiikiamdbelbjaa.E Go.Proofs
namespace Go.Proofs.Ytiikiamdbelbjaa.E.M
abbrev TFm : Prop := tSz Try.prog 61 = some 4 ∧
    tAgg Try.prog 61 = some true ∧
    tBytes Try.prog 61 = some 64 ∧
    tZero Try.prog 61 = some [(.int .i64 0), (.int .i64 0), (.slice none 0 0), (.slice none 0 0)] ∧
    tSlice Try.prog 61 = none ∧
    tIface Try.prog 61 = some false ∧
    tCls Try.prog 61 = .other ∧
    tField Try.prog 61 0 = some (0, 33) ∧
    tField Try.prog 61 1 = some (3, 34) ∧
    (∀ ps, aBuild Try.prog 61 ps = (aFill ([(0, 3), (3, 1)][·]?) [.val (.int .i64 0), .val (.int .i64 0), .val (.slice none 0 0), .val (.slice none 0 0)] ps).map .agg) ∧
    tSz Try.prog 24 = some 1 ∧
    tAgg Try.prog 24 = some false ∧
    tBytes Try.prog 24 = some 8 ∧
    tZero Try.prog 24 = some [(.pointer none)] ∧
    tSlice Try.prog 24 = none ∧
    tIface Try.prog 24 = some false ∧
    tCls Try.prog 24 = .pointer ∧
    tSz Try.prog 41 = some 1 ∧
    tAgg Try.prog 41 = some false ∧
    tBytes Try.prog 41 = some 24 ∧
    tZero Try.prog 41 = some [(.slice none 0 0)] ∧
    tSlice Try.prog 41 = some 3 ∧
    Try.prog.underlying 41 = some (.slice 3) ∧
    tIface Try.prog 41 = some false ∧
    tCls Try.prog 41 = .slice
theorem tfm : TFm :=
  ⟨rfl, rfl, rfl, rfl, rfl, rfl, rfl, rfl, rfl, fun _ => rfl, rfl, rfl, rfl, rfl, rfl, rfl, rfl, rfl, rfl, rfl, rfl, rfl, rfl, rfl, rfl⟩
/-- a maker -/
structure Mk where
  v : Int
  p : Int
  rows : List Rw
  vals : List Int
  deriving Inhabited
abbrev mkC (m : Mk) (lr lv : Nat) : List AV := [i m.v, i m.p, .ref lr 0 m.rows.length 3, .ref lv 0 m.vals.length 1]
abbrev mkB (m : Mk) (lr lv : Nat) : Blk := ⟨61, true, mkC m lr lv⟩
abbrev rwB (L : List Rw) : Blk := ⟨57, false, fm rw_ L⟩
abbrev vlB (V : List Int) : Blk := ⟨22, false, fm u1 V⟩
abbrev mkIn (m : Mk) : List (Nat × Blk) := [(0, mkB m 1 2), (1, rwB m.rows), (2, vlB m.vals)]
abbrev mkOut (m : Mk) : List (Nat × Blk) := [(0, mkB m 1001 1002), (1001, rwB m.rows), (1002, vlB m.vals)]
theorem rw_free (L : List Rw) : frees (fm rw_ L) = true := frees_fm (f := rw_) (fun _ => rfl) L
theorem u1_free (L : List Int) : frees (fm u1 L) = true := frees_fm (f := u1) (fun _ => rfl) L
theorem rw_rens (s : Nat → Nat) (L : List Rw) : rens s (fm rw_ L) = fm rw_ L := rens_free s (rw_free L)
theorem u1_rens (s : Nat → Nat) (L : List Int) : rens s (fm u1 L) = fm u1 L := rens_free s (u1_free L)
theorem rw_labs (L : List Rw) : labss (fm rw_ L) = [] := labss_free _ (rw_free L)
theorem u1_labs (L : List Int) : labss (fm u1 L) = [] := labss_free _ (u1_free L)
/-- A call of a maker's method. -/
theorem AOL.callM {ops : Array Oper} {o : Oper} {os : List Oper} {K : St → Prop} {st st' : St} {g : FuncId} {xs : List AV} {r0 : AV} {m m' : Mk} {l b : Nat}
    (hF : Fn Try.prog g (.ptr 0 0 :: xs) (mkIn m) (Tells r0 (mkOut m')))
    (hc : callL st ops.toList o = some (g, .ptr l 0 :: xs)) (hcl : callable Try.prog g = true) (hfr : frees xs = true) (hr : r0.free = true)
    (h0 : get? l st.h = some (mkB m (b + 1) (b + 2))) (h1 : get? (b + 1) st.h = some (rwB m.rows)) (h2 : get? (b + 2) st.h = some (vlB m.vals))
    (hst : ({ (st.drops [b + 1, b + 2, b + 1, b + 2]) with h := ins (b + 2) (vlB m'.vals) (ins (b + 1) (rwB m'.rows) (ins l (mkB m' (b + 1) (b + 2)) (st.drops [b + 1, b + 2, b + 1, b + 2]).h)) } : St).put o.dst r0 = st')
    (h : AOL Try.prog ops os K st')
    (hl : l ≠ b + 1 ∧ l ≠ b + 2 := by decide) (hb : 1000 ≤ b := by decide) : AOL Try.prog ops (o :: os) K st := by
  have hno : labs r0 = [] := labs_free _ hr
  refine AOL.callT (las := .ptr 0 0 :: xs) (hin := mkIn m) [l, b + 1, b + 2] b hF hc ?_ hcl ?_ ?_ ?_ ?_ h ?_ (by simp) hb
  · simp only [rens, ren, nth]
    rw [rens_free _ hfr]
  · intro k hk
    simp only [labss, labs, labss_free _ hfr, List.append_nil, List.mem_singleton] at hk
    subst hk; simp
  · intro p hp
    simp only [List.mem_cons, List.not_mem_nil, or_false] at hp
    rcases hp with rfl | rfl | rfl
    · refine ⟨by simp, ?_, ?_⟩
      · intro k hk; simp [labss, labs] at hk; rcases hk with rfl | rfl <;> simp
      · simp only [nth, renB, rens, ren]; exact h0
    · refine ⟨by simp, ?_, ?_⟩
      · intro k hk; simp only [rw_labs] at hk; cases hk
      · simp only [nth, renB, rw_rens]; exact h1
    · refine ⟨by simp, ?_, ?_⟩
      · intro k hk; simp only [u1_labs] at hk; cases hk
      · simp only [nth, renB, u1_rens]; exact h2
  · refine ⟨?_, ?_, ?_, ?_, ?_⟩
    · intro p hp
      simp only [List.mem_cons, List.not_mem_nil, or_false] at hp
      rcases hp with rfl | rfl | rfl <;> simp
    · intro p hp
      simp only [List.mem_cons, List.not_mem_nil, or_false] at hp
      rcases hp with rfl | rfl | rfl <;> simp
    · rw [hno]; simp
    · intro p hp
      simp only [List.mem_cons, List.not_mem_nil, or_false] at hp
      rcases hp with rfl | rfl | rfl
      · intro k hk; simp [labss, labs] at hk; rcases hk with rfl | rfl <;> simp [hlabs]
      · intro k hk; simp only [rw_labs] at hk; cases hk
      · intro k hk; simp only [u1_labs] at hk; cases hk
    · intro x hx y hy
      simp only [hlabs, List.map_cons, List.map_nil, List.mem_cons, List.not_mem_nil, or_false] at hx hy
      rcases hx with rfl | rfl | rfl <;> rcases hy with rfl | rfl | rfl <;> simp [sig, nth, pos] <;> omega
  · rw [← hst, ren_none hno]
    simp only [St.after, mkOut, consumed, newNames, get?, putH, sig, nth, pos, renB, rens, ren, rw_rens, u1_rens, Nat.reduceLT, Nat.reduceEqDiff, if_true, if_false, reduceIte, Nat.reduceAdd, Nat.zero_add, List.cons_append, List.nil_append]
  · simp; omega
def isM (V : List Int) (a : Int) : Int := if a < 0 ∨ a ≥ (V.length : Int) then 0 else a
theorem isM_in {V : List Int} (h : 0 < V.length) (a : Int) : 0 ≤ isM V a ∧ isM V a < V.length := by
  unfold isM; split <;> omega
set_option maxHeartbeats 1000000 in
theorem gadget_Maker_is_f {m : Mk} {a : Int} : Fn Try.prog 27 [.fptr [i m.v, i m.p, slF rw_ m.rows, ul m.vals], i a] [] (fun r h_ => r = i (isM m.vals a)) := by
  refine Fn.enter Try.func27 Try.ntmps27 rfl (h := ?_)
  have tf := tfm
  have ot_ : (false || true) = true := rfl
  have tfr := tfr
  repeat refine AW.seq ?_
  refine AW.reg ?_
  iterate 1 refine AOL.s1 (h := ?_)
  refine AOL.nil ?_
  refine AW.kq [0, 1] (h := ?_)
  repeat refine AW.seq ?_
  refine AW.reg ?_
  iterate 3 refine AOL.s1 (h := ?_)
  refine AOL.kq [0, 1, 7] (h := ?_)
  refine AOL.or 7 15 (os' := ?_) (x := ?_) (h1 := ?_) (h0 := ?_) (h := ?_)
  rotate_left 2
  iterate 2
    · intro hb_ K' hK; (iterate 8 refine AOL.s1 (h := ?_)); refine AOL.kq [0, 1, 15] (h := ?_); exact hK
  refine AOL.nil ?_
  refine AW.kq [1, 15] (h := ?_)
  repeat refine AW.seq ?_
  refine AW.cond rfl (fun c_ => ?_) (fun c_ => ?_)
  · have hv : isM m.vals a = 0 := if_pos (by simpa using c_)
    repeat refine AW.seq ?_
    refine AW.reg ?_
    iterate 1 refine AOL.s1 (h := ?_)
    refine AOL.nil ?_
    refine AW.kq [4] (h := ?_)
    repeat refine AW.seq ?_
    refine AW.ret ?_
    refine ⟨_, [], rfl, HOk.nil _, ?_⟩
    simp only [one?, hv]
  have hv : isM m.vals a = a := if_neg (by simp at c_; omega)
  refine AW.skip ?_
  repeat refine AW.seq ?_
  refine AW.reg ?_
  iterate 2 refine AOL.s1 (h := ?_)
  refine AOL.nil ?_
  refine AW.kq [4] (h := ?_)
  repeat refine AW.seq ?_
  refine AW.ret ?_
  refine ⟨_, [], rfl, HOk.nil _, ?_⟩
  simp only [one?, hv]
theorem frz_mk (m : Mk) {lr lv : Nat} (hne : lr ≠ lv) : frzL [(lr, fm rw_ m.rows), (lv, fm u1 m.vals)] (mkC m lr lv) = [i m.v, i m.p, slF rw_ m.rows, ul m.vals] := by
  have e1 : sub 0 (m.rows.length * 3) (fm rw_ m.rows) = fm rw_ m.rows := sub_all (by rw [fm_len rw_len]; exact Nat.le_refl _)
  have e2 : sub 0 (m.vals.length * 1) (fm u1 m.vals) = fm u1 m.vals := sub_all (by rw [fm_len u1_len]; exact Nat.le_refl _)
  simp only [frzL, List.foldl_cons, List.foldl_nil, frzs, frz, if_true, if_neg hne.symm, e1, e2]
theorem isF {h : List (Nat × Blk)} {m : Mk} {l lr lv : Nat} {a : Int} (h0 : get? l h = some (mkB m lr lv)) (h1 : get? lr h = some (rwB m.rows)) (h2 : get? lv h = some (vlB m.vals)) (hne : lr ≠ lv ∧ lr ≠ l ∧ lv ≠ l := by decide) :
    CallF Try.prog h [.ptr l 0, i a] 27 (i (isM m.vals a)) := by
  have e : frzL [(lr, fm rw_ m.rows), (lv, fm u1 m.vals), (l, [i m.v, i m.p, slF rw_ m.rows, ul m.vals])] [.ptr l 0, i a] = [.fptr [i m.v, i m.p, slF rw_ m.rows, ul m.vals], i a] := by
    simp only [frzL, List.foldl_cons, List.foldl_nil, frzs, frz, if_true, if_neg hne.2.1.symm, if_neg hne.2.2.symm, List.drop_zero]
  refine .inr ⟨[(lr, fm rw_ m.rows), (lv, fm u1 m.vals), (l, [i m.v, i m.p, slF rw_ m.rows, ul m.vals])], _, rfl, ⟨⟨_, h1, .inl ⟨rfl, rfl⟩⟩, ⟨_, h2, .inl ⟨rfl, rfl⟩⟩, ⟨_, h0, .inr ⟨frz_mk m hne.1, rfl⟩⟩, trivial⟩, ?_, ?_⟩
  · rw [e]; rfl
  · rw [e]; exact gadget_Maker_is_f
theorem valC {h : List (Nat × Blk)} {V : List Int} {L : List Tm} {lv n : Nat} (hL : L.length < 1000000000) (hV : wV V) (hT : wT L) (h2 : get? lv h = some (vlB V)) (hn : n = V.length := by rfl) :
    CallF Try.prog h [slF tm L, .ref lv 0 n 1] 39 (u (valF V 0 L)) := by
  subst hn
  have e2 : sub 0 (V.length * 1) (fm u1 V) = fm u1 V := sub_all (by rw [fm_len u1_len]; exact Nat.le_refl _)
  have e : frzL [(lv, fm u1 V)] [slF tm L, .ref lv 0 V.length 1] = [slF tm L, ul V] := by
    simp only [frzL, List.foldl_cons, List.foldl_nil, frzs, frz, if_true, e2]
  refine .inr ⟨[(lv, fm u1 V)], _, rfl, ⟨⟨_, h2, .inl ⟨rfl, rfl⟩⟩, trivial⟩, ?_, ?_⟩
  · rw [e]; rfl
  · rw [e]; exact rank_Value_c hL hV hT
set_option maxHeartbeats 1000000 in
theorem gadget_one_c {v k : Int} : Fn Try.prog 28 [i v, u k] [] (fun r h_ => r = .agg [i v, u k]) := by
  refine Fn.enter Try.func28 Try.ntmps28 rfl (h := ?_)
  have tf := tfm
  have ot_ : (false || true) = true := rfl
  have tfr := tfr
  repeat refine AW.seq ?_
  refine AW.reg ?_
  iterate 1 refine AOL.s1 (h := ?_)
  refine AOL.nil ?_
  refine AW.kq [0, 1, 4] (h := ?_)
  repeat refine AW.seq ?_
  refine AW.reg ?_
  iterate 4 refine AOL.s1 (h := ?_)
  refine AOL.nil ?_
  refine AW.kq [4] (h := ?_)
  repeat refine AW.seq ?_
  refine AW.ret ?_
  refine ⟨_, [], rfl, HOk.nil _, ?_⟩
  simp only [one?]; rfl
set_option maxHeartbeats 1000000 in
theorem gadget_just_c {v : Int} : Fn Try.prog 31 [i v] [] (fun r h_ => r = slF tm [⟨v, 1⟩]) := by
  refine Fn.enter Try.func31 Try.ntmps31 rfl (h := ?_)
  have tf := tfm
  have ot_ : (false || true) = true := rfl
  have tfr := tfr
  repeat refine AW.seq ?_
  refine AW.reg ?_
  iterate 1 refine AOL.s1 (h := ?_)
  refine AOL.nil ?_
  refine AW.kq [0] (h := ?_)
  repeat refine AW.seq ?_
  refine AW.reg ?_
  iterate 1 refine AOL.s1 (h := ?_)
  refine AOL.callD rfl (gadget_one_c) (by kernel_rfl) rfl rfl (h := ?_)
  iterate 2 refine AOL.s1 (h := ?_)
  refine AOL.nil ?_
  refine AW.kq [2] (h := ?_)
  repeat refine AW.seq ?_
  refine AW.fz 1080 rfl (fun h => by cases h) (h := ?_)
  refine AW.ret ?_
  refine ⟨_, [], rfl, HOk.nil _, ?_⟩
  rfl
def freshM (m : Mk) (x : Int) : Mk := ⟨((m.vals.length + 1 : Nat) : Int), m.p, m.rows, m.vals ++ [x % 288230376287764481]⟩
abbrev Mok (k : Nat) (m : Mk) : Prop := m.vals.length + k ≤ 1000000 ∧ m.rows.length + k ≤ 1000000 ∧ wV m.vals ∧ 0 < m.vals.length
theorem Mok.mono {k j : Nat} {m : Mk} (h : Mok k m) (hj : j ≤ k) : Mok j m := ⟨by have := h.1; omega, by have := h.2.1; omega, h.2.2⟩
theorem Mok.fresh {k : Nat} {m : Mk} (h : Mok (k + 1) m) (x : Int) : Mok k (freshM m x) := by
  refine ⟨?_, ?_, ?_, ?_⟩
  · have := h.1; simp only [freshM, List.length_append, List.length_singleton]; omega
  · have := h.2.1; simp only [freshM]; omega
  · intro v hv
    rcases List.mem_append.1 hv with hv | hv
    · exact h.2.2.1 v hv
    · simp only [List.mem_singleton] at hv; subst hv; exact w64_r _
  · simp only [freshM, List.length_append, List.length_singleton]; omega
theorem HOk.three {A B C : Nat × Blk} {r h : List (Nat × Blk)} (e : h = [A, B, C]) : HOk (A :: B :: C :: r) h := by
  subst e
  intro p hp
  simp only [List.mem_cons, List.not_mem_nil, or_false] at hp
  rcases hp with rfl | rfl | rfl <;> simp
theorem fmv_snoc (V : List Int) (x : Int) : fm u1 (V ++ [x]) = fm u1 V ++ [u x] := by rw [fm_app]; rfl
set_option maxHeartbeats 1000000 in
theorem gadget_Maker_fresh_c {m : Mk} {x : Int} (hm : Mok 1 m) (hx : w64 x) : Fn Try.prog 26 [.ptr 0 0, u x] [(0, mkB m 1 2), (1, rwB m.rows), (2, vlB m.vals)] (Tells (i m.vals.length) (mkOut (freshM m x))) := by
  refine Fn.enter Try.func26 Try.ntmps26 rfl (h := ?_)
  have tf := tfm
  have ot_ : (false || true) = true := rfl
  have tfr := tfr
  have lm : m.vals.length < 1000000 := by have := hm.1; omega
  have htm : x.tmod 288230376287764481 = x % 288230376287764481 := Int.tmod_eq_emod_of_nonneg hx.1
  have lc : (fm u1 m.vals).length = m.vals.length := by rw [fm_len u1_len, Nat.mul_one]
  have a1 : (m.vals.length + 1) * 8 ≤ 140737488355328 := by omega
  have a2 : m.vals.length + 1 ≤ 4611686018427387904 := by omega
  have a3 : m.vals.length ≤ 4611686018427387903 := by omega
  have lw : IntKind.i64.wrap (((m.vals.length + 1 : Nat) : Int) - 1) = (m.vals.length : Int) := by rw [wrapI_o (by omega) (by omega)]; omega
  refine AW.mv 1 1001 (h := ?_)
  refine AW.mv 2 1002 (h := ?_)
  repeat refine AW.seq ?_
  refine AW.reg ?_
  iterate 1 refine AOL.s1 (h := ?_)
  refine AOL.nil ?_
  refine AW.kq [0, 1] (h := ?_)
  repeat refine AW.seq ?_
  refine AW.reg ?_
  iterate 12 refine AOL.s1 (h := ?_)
  refine AOL.nil ?_
  refine AW.kq [0] (h := ?_)
  repeat refine AW.seq ?_
  refine AW.reg ?_
  iterate 10 refine AOL.s1 (h := ?_)
  refine AOL.nil ?_
  refine AW.kq [0] (h := ?_)
  repeat refine AW.seq ?_
  refine AW.reg ?_
  iterate 7 refine AOL.s1 (h := ?_)
  refine AOL.nil ?_
  refine AW.kq [4] (h := ?_)
  repeat refine AW.seq ?_
  refine AW.ret ?_
  refine ⟨_, mkOut (freshM m x), rfl, ?_, ?_⟩
  · refine HOk.three ?_
    simp only [freshM, mkOut, mkB, mkC, vlB, fmv_snoc, List.length_append, List.length_singleton]
  · exact Tells.self
def rowM (m : Mk) (a b c : List Tm) : Mk := ⟨m.v, m.p, m.rows ++ [⟨sumT a, sumT b, sumT c⟩], m.vals⟩
theorem fmr_snoc (V : List Rw) (x : Rw) : fm rw_ (V ++ [x]) = fm rw_ V ++ rw_ x := by rw [fm_app]; simp only [fm, List.append_nil]
theorem Mok.row {k : Nat} {m : Mk} (h : Mok (k + 1) m) (a b c : List Tm) : Mok k (rowM m a b c) := by
  refine ⟨?_, ?_, h.2.2⟩
  · have := h.1; simp only [rowM]; omega
  · have := h.2.1; simp only [rowM, List.length_append, List.length_singleton]; omega
abbrev tok (L : List Tm) : Prop := L.length < 1000000 ∧ wT L
set_option maxHeartbeats 1000000 in
theorem gadget_Maker_row_c {m : Mk} {a b c : List Tm} (hm : Mok 1 m) (ha : tok a) (hb : tok b) (hc : tok c) : Fn Try.prog 47 [.ptr 0 0, slF tm a, slF tm b, slF tm c] [(0, mkB m 1 2), (1, rwB m.rows), (2, vlB m.vals)] (Tells (.tup []) (mkOut (rowM m a b c))) := by
  refine Fn.enter Try.func47 Try.ntmps47 rfl (h := ?_)
  have tf := tfm
  have ot_ : (false || true) = true := rfl
  have tfr := tfr
  have lm : m.rows.length < 1000000 := by have := hm.2.1; omega
  have lc : (fm rw_ m.rows).length = m.rows.length * 3 := fm_len rw_len _
  have a1 : (m.rows.length + 1) * 72 ≤ 140737488355328 := by omega
  have a2 : m.rows.length + 1 ≤ 4611686018427387904 := by omega
  have a3 : m.rows.length ≤ 4611686018427387903 := by omega
  have cA := rank_Sum_c (show a.length < 1000000000 by have := ha.1; omega) ha.2
  have cB := rank_Sum_c (show b.length < 1000000000 by have := hb.1; omega) hb.2
  have cC := rank_Sum_c (show c.length < 1000000000 by have := hc.1; omega) hc.2
  refine AW.mv 1 1001 (h := ?_)
  refine AW.mv 2 1002 (h := ?_)
  repeat refine AW.seq ?_
  refine AW.da 15 (by kernel_rfl) (h := ?_)
  iterate 7 refine ADP.d1 (h := ?_)
  refine ADP.call rfl (cA) (by kernel_rfl) rfl rfl (h := ?_)
  iterate 1 refine ADP.d1 (h := ?_)
  refine ADP.call rfl (cB) (by kernel_rfl) rfl rfl (h := ?_)
  iterate 1 refine ADP.d1 (h := ?_)
  refine ADP.call rfl (cC) (by kernel_rfl) rfl rfl (h := ?_)
  iterate 2 refine ADP.d1 (h := ?_)
  refine ADP.app 1001 (h := ?_)
  refine ADP.doneF hmix [(0, 0)] (by kernel_rfl) rfl (hF := ?_) (hT := ?_)
  · intro p_ hp_; simp only [List.mem_cons, List.not_mem_nil, or_false] at hp_; rcases hp_ with rfl <;> exact ⟨_, _, _, by simp, rfl, rfl, rfl, rfl, rfl, rfl, rfl, rfl⟩
  iterate 4 refine AOL.s1 (h := ?_)
  refine AOL.nil ?_
  refine ⟨_, mkOut (rowM m a b c), rfl, ?_, ?_⟩
  · refine HOk.three ?_
    simp only [rowM, mkOut, mkB, mkC, rwB, fmr_snoc, List.length_append, List.length_singleton]
  · exact Tells.self
end Go.Proofs.Ytiikiamdbelbjaa.E.M

