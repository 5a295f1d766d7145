/- Texts joined: ZVGad, ZVGae, ZVGaf, ZVGag. -/
import Derived.Test.YtngphcdhdllnnaaGreatZW7
import Derived.Test.YtngphcdhdllnnaaGreatProg
import Derived.KernelRfl
section
/- gadget: a maker in memory, and its small methods: contracts over E. -/
set_option linter.unusedVariables false
set_option linter.unusedSimpArgs false
set_option maxRecDepth 10000
open Go Go.Proofs.YtngphcdhdllnnaaGreat.E Go.Proofs
namespace Go.Proofs.YtngphcdhdllnnaaGreat.E.M
abbrev TFm : Prop := tSz Tryz.prog 74 = some 4 ∧
    tAgg Tryz.prog 74 = some true ∧
    tBytes Tryz.prog 74 = some 64 ∧
    tZero Tryz.prog 74 = some [(.int .i64 0), (.int .i64 0), (.slice none 0 0), (.slice none 0 0)] ∧
    tSlice Tryz.prog 74 = none ∧
    tIface Tryz.prog 74 = some false ∧
    tCls Tryz.prog 74 = .other ∧
    tField Tryz.prog 74 0 = some (0, 36) ∧
    tField Tryz.prog 74 1 = some (3, 25) ∧
    (∀ ps, aBuild Tryz.prog 74 ps = (aFill ([(0, 3), (3, 1)][·]?) [.val (.int .i64 0), .val (.int .i64 0), .val (.slice none 0 0), .val (.slice none 0 0)] ps).map .agg) ∧
    tSz Tryz.prog 42 = some 1 ∧
    tAgg Tryz.prog 42 = some false ∧
    tBytes Tryz.prog 42 = some 8 ∧
    tZero Tryz.prog 42 = some [(.pointer none)] ∧
    tSlice Tryz.prog 42 = none ∧
    tIface Tryz.prog 42 = some false ∧
    tCls Tryz.prog 42 = .pointer ∧
    tSz Tryz.prog 48 = some 1 ∧
    tAgg Tryz.prog 48 = some false ∧
    tBytes Tryz.prog 48 = some 24 ∧
    tZero Tryz.prog 48 = some [(.slice none 0 0)] ∧
    tSlice Tryz.prog 48 = some 3 ∧
    Tryz.prog.underlying 48 = some (.slice 3) ∧
    tIface Tryz.prog 48 = some false ∧
    tCls Tryz.prog 48 = .slice
theorem tfm : TFm :=
  ⟨rfl, rfl, rfl, rfl, rfl, rfl, rfl, rfl, rfl, fun _ => rfl, rfl, rfl, rfl, rfl, rfl, rfl, rfl, rfl, rfl, rfl, rfl, rfl, rfl, rfl, rfl⟩
/-- a maker -/
structure Mk where
  v : Int
  p : Int
  rows : List Rw
  vals : List Int
  deriving Inhabited
abbrev mkC (m : Mk) (lr lv : Nat) : List AV := [i m.v, i m.p, .ref lr 0 m.rows.length 3, .ref lv 0 m.vals.length 1]
abbrev mkB (m : Mk) (lr lv : Nat) : Blk := ⟨74, true, mkC m lr lv⟩
abbrev rwB (L : List Rw) : Blk := ⟨89, false, fm rw_ L⟩
abbrev vlB (V : List Int) : Blk := ⟨22, false, fm u1 V⟩
abbrev mkIn (m : Mk) : List (Nat × Blk) := [(0, mkB m 1 2), (1, rwB m.rows), (2, vlB m.vals)]
abbrev mkOut (m : Mk) : List (Nat × Blk) := [(0, mkB m 1001 1002), (1001, rwB m.rows), (1002, vlB m.vals)]
theorem rw_free (L : List Rw) : frees (fm rw_ L) = true := frees_fm (f := rw_) (fun _ => rfl) L
theorem u1_free (L : List Int) : frees (fm u1 L) = true := frees_fm (f := u1) (fun _ => rfl) L
theorem rw_rens (s : Nat → Nat) (L : List Rw) : rens s (fm rw_ L) = fm rw_ L := rens_free s (rw_free L)
theorem u1_rens (s : Nat → Nat) (L : List Int) : rens s (fm u1 L) = fm u1 L := rens_free s (u1_free L)
theorem rw_labs (L : List Rw) : labss (fm rw_ L) = [] := labss_free _ (rw_free L)
theorem u1_labs (L : List Int) : labss (fm u1 L) = [] := labss_free _ (u1_free L)
/-- A call of a maker's method. -/
theorem AOL.callM {ops : Array Oper} {o : Oper} {os : List Oper} {K : St → Prop} {st st' : St} {g : FuncId} {xs : List AV} {r0 : AV} {m m' : Mk} {l b : Nat}
    (hF : Fn Tryz.prog g (.ptr 0 0 :: xs) (mkIn m) (Tells r0 (mkOut m')))
    (hc : callL st ops.toList o = some (g, .ptr l 0 :: xs)) (hcl : callable Tryz.prog g = true) (hfr : frees xs = true) (hr : r0.free = true)
    (h0 : get? l st.h = some (mkB m (b + 1) (b + 2))) (h1 : get? (b + 1) st.h = some (rwB m.rows)) (h2 : get? (b + 2) st.h = some (vlB m.vals))
    (hst : ({ (st.drops [b + 1, b + 2, b + 1, b + 2]) with h := ins (b + 2) (vlB m'.vals) (ins (b + 1) (rwB m'.rows) (ins l (mkB m' (b + 1) (b + 2)) (st.drops [b + 1, b + 2, b + 1, b + 2]).h)) } : St).put o.dst r0 = st')
    (h : AOL Tryz.prog ops os K st')
    (hl : l ≠ b + 1 ∧ l ≠ b + 2 := by decide) (hb : 1000 ≤ b := by decide) : AOL Tryz.prog ops (o :: os) K st := by
  have hno : labs r0 = [] := labs_free _ hr
  refine AOL.callT (las := .ptr 0 0 :: xs) (hin := mkIn m) [l, b + 1, b + 2] b hF hc ?_ hcl ?_ ?_ ?_ ?_ h ?_ (by simp) hb
  · simp only [rens, ren, nth]
    rw [rens_free _ hfr]
  · intro k hk
    simp only [labss, labs, labss_free _ hfr, List.append_nil, List.mem_singleton] at hk
    subst hk; simp
  · intro p hp
    simp only [List.mem_cons, List.not_mem_nil, or_false] at hp
    rcases hp with rfl | rfl | rfl
    · refine ⟨by simp, ?_, ?_⟩
      · intro k hk; simp [labss, labs] at hk; rcases hk with rfl | rfl <;> simp
      · simp only [nth, renB, rens, ren]; exact h0
    · refine ⟨by simp, ?_, ?_⟩
      · intro k hk; simp only [rw_labs] at hk; cases hk
      · simp only [nth, renB, rw_rens]; exact h1
    · refine ⟨by simp, ?_, ?_⟩
      · intro k hk; simp only [u1_labs] at hk; cases hk
      · simp only [nth, renB, u1_rens]; exact h2
  · refine ⟨?_, ?_, ?_, ?_, ?_⟩
    · intro p hp
      simp only [List.mem_cons, List.not_mem_nil, or_false] at hp
      rcases hp with rfl | rfl | rfl <;> simp
    · intro p hp
      simp only [List.mem_cons, List.not_mem_nil, or_false] at hp
      rcases hp with rfl | rfl | rfl <;> simp
    · rw [hno]; simp
    · intro p hp
      simp only [List.mem_cons, List.not_mem_nil, or_false] at hp
      rcases hp with rfl | rfl | rfl
      · intro k hk; simp [labss, labs] at hk; rcases hk with rfl | rfl <;> simp [hlabs]
      · intro k hk; simp only [rw_labs] at hk; cases hk
      · intro k hk; simp only [u1_labs] at hk; cases hk
    · intro x hx y hy
      simp only [hlabs, List.map_cons, List.map_nil, List.mem_cons, List.not_mem_nil, or_false] at hx hy
      rcases hx with rfl | rfl | rfl <;> rcases hy with rfl | rfl | rfl <;> simp [sig, nth, pos] <;> omega
  · rw [← hst, ren_none hno]
    simp only [St.after, mkOut, consumed, newNames, get?, putH, sig, nth, pos, renB, rens, ren, rw_rens, u1_rens, Nat.reduceLT, Nat.reduceEqDiff, if_true, if_false, reduceIte, Nat.reduceAdd, Nat.zero_add, List.cons_append, List.nil_append]
  · simp; omega
def isM (V : List Int) (a : Int) : Int := if a < 0 ∨ a ≥ (V.length : Int) then 0 else a
theorem isM_in {V : List Int} (h : 0 < V.length) (a : Int) : 0 ≤ isM V a ∧ isM V a < V.length := by
  unfold isM; split <;> omega
set_option maxHeartbeats 1000000 in
theorem gadget_Maker_is_f {m : Mk} {a : Int} : Fn Tryz.prog 39 [.fptr [i m.v, i m.p, slF rw_ m.rows, ul m.vals], i a] [] (fun r h_ => r = i (isM m.vals a)) := by
  refine Fn.enter Tryz.func39 Tryz.ntmps39 rfl (h := ?_)
  have tf := tfm
  have ot_ : (false || true) = true := rfl
  have tfr := tfr
  repeat refine AW.seq ?_
  refine AW.reg ?_
  iterate 1 refine AOL.s1 (h := ?_)
  refine AOL.nil ?_
  refine AW.kq [0, 1] (h := ?_)
  repeat refine AW.seq ?_
  refine AW.reg ?_
  iterate 3 refine AOL.s1 (h := ?_)
  refine AOL.kq [0, 1, 7] (h := ?_)
  refine AOL.or 7 15 (os' := ?_) (x := ?_) (h1 := ?_) (h0 := ?_) (h := ?_)
  rotate_left 2
  iterate 2
    · intro hb_ K' hK; (iterate 8 refine AOL.s1 (h := ?_)); refine AOL.kq [0, 1, 15] (h := ?_); exact hK
  refine AOL.nil ?_
  refine AW.kq [1, 15] (h := ?_)
  repeat refine AW.seq ?_
  refine AW.cond rfl (fun c_ => ?_) (fun c_ => ?_)
  · have hv : isM m.vals a = 0 := if_pos (by simpa using c_)
    repeat refine AW.seq ?_
    refine AW.reg ?_
    iterate 1 refine AOL.s1 (h := ?_)
    refine AOL.nil ?_
    refine AW.kq [4] (h := ?_)
    repeat refine AW.seq ?_
    refine AW.ret ?_
    refine ⟨_, [], rfl, HOk.nil _, ?_⟩
    simp only [one?, hv]
  have hv : isM m.vals a = a := if_neg (by simp at c_; omega)
  refine AW.skip ?_
  repeat refine AW.seq ?_
  refine AW.reg ?_
  iterate 2 refine AOL.s1 (h := ?_)
  refine AOL.nil ?_
  refine AW.kq [4] (h := ?_)
  repeat refine AW.seq ?_
  refine AW.ret ?_
  refine ⟨_, [], rfl, HOk.nil _, ?_⟩
  simp only [one?, hv]
theorem frz_mk (m : Mk) {lr lv : Nat} (hne : lr ≠ lv) : frzL [(lr, fm rw_ m.rows), (lv, fm u1 m.vals)] (mkC m lr lv) = [i m.v, i m.p, slF rw_ m.rows, ul m.vals] := by
  have e1 : sub 0 (m.rows.length * 3) (fm rw_ m.rows) = fm rw_ m.rows := sub_all (by rw [fm_len rw_len]; exact Nat.le_refl _)
  have e2 : sub 0 (m.vals.length * 1) (fm u1 m.vals) = fm u1 m.vals := sub_all (by rw [fm_len u1_len]; exact Nat.le_refl _)
  simp only [frzL, List.foldl_cons, List.foldl_nil, frzs, frz, if_true, if_neg hne.symm, e1, e2]
theorem isF {h : List (Nat × Blk)} {m : Mk} {l lr lv : Nat} {a : Int} (h0 : get? l h = some (mkB m lr lv)) (h1 : get? lr h = some (rwB m.rows)) (h2 : get? lv h = some (vlB m.vals)) (hne : lr ≠ lv ∧ lr ≠ l ∧ lv ≠ l := by decide) :
    CallF Tryz.prog h [.ptr l 0, i a] 39 (i (isM m.vals a)) := by
  have e : frzL [(lr, fm rw_ m.rows), (lv, fm u1 m.vals), (l, [i m.v, i m.p, slF rw_ m.rows, ul m.vals])] [.ptr l 0, i a] = [.fptr [i m.v, i m.p, slF rw_ m.rows, ul m.vals], i a] := by
    simp only [frzL, List.foldl_cons, List.foldl_nil, frzs, frz, if_true, if_neg hne.2.1.symm, if_neg hne.2.2.symm, List.drop_zero]
  refine .inr ⟨[(lr, fm rw_ m.rows), (lv, fm u1 m.vals), (l, [i m.v, i m.p, slF rw_ m.rows, ul m.vals])], _, rfl, ⟨⟨_, h1, .inl ⟨rfl, rfl⟩⟩, ⟨_, h2, .inl ⟨rfl, rfl⟩⟩, ⟨_, h0, .inr ⟨frz_mk m hne.1, rfl⟩⟩, trivial⟩, ?_, ?_⟩
  · rw [e]; rfl
  · rw [e]; exact gadget_Maker_is_f
theorem valC {h : List (Nat × Blk)} {V : List Int} {L : List Tm} {lv n : Nat} (hL : L.length < 1000000000) (hV : wV V) (hT : wT L) (h2 : get? lv h = some (vlB V)) (hn : n = V.length := by rfl) :
    CallF Tryz.prog h [slF tm L, .ref lv 0 n 1] 50 (u (valF V 0 L)) := by
  subst hn
  have e2 : sub 0 (V.length * 1) (fm u1 V) = fm u1 V := sub_all (by rw [fm_len u1_len]; exact Nat.le_refl _)
  have e : frzL [(lv, fm u1 V)] [slF tm L, .ref lv 0 V.length 1] = [slF tm L, ul V] := by
    simp only [frzL, List.foldl_cons, List.foldl_nil, frzs, frz, if_true, e2]
  refine .inr ⟨[(lv, fm u1 V)], _, rfl, ⟨⟨_, h2, .inl ⟨rfl, rfl⟩⟩, trivial⟩, ?_, ?_⟩
  · rw [e]; rfl
  · rw [e]; exact rank_Value_c hL hV hT
set_option maxHeartbeats 1000000 in
theorem gadget_one_c {v k : Int} : Fn Tryz.prog 42 [i v, u k] [] (fun r h_ => r = .agg [i v, u k]) := by
  refine Fn.enter Tryz.func42 Tryz.ntmps42 rfl (h := ?_)
  have tf := tfm
  have ot_ : (false || true) = true := rfl
  have tfr := tfr
  repeat refine AW.seq ?_
  refine AW.reg ?_
  iterate 1 refine AOL.s1 (h := ?_)
  refine AOL.nil ?_
  refine AW.kq [0, 1, 4] (h := ?_)
  repeat refine AW.seq ?_
  refine AW.reg ?_
  iterate 4 refine AOL.s1 (h := ?_)
  refine AOL.nil ?_
  refine AW.kq [4] (h := ?_)
  repeat refine AW.seq ?_
  refine AW.ret ?_
  refine ⟨_, [], rfl, HOk.nil _, ?_⟩
  simp only [one?]; rfl
set_option maxHeartbeats 1000000 in
theorem gadget_just_c {v : Int} : Fn Tryz.prog 41 [i v] [] (fun r h_ => r = slF tm [⟨v, 1⟩]) := by
  refine Fn.enter Tryz.func41 Tryz.ntmps41 rfl (h := ?_)
  have tf := tfm
  have ot_ : (false || true) = true := rfl
  have tfr := tfr
  repeat refine AW.seq ?_
  refine AW.reg ?_
  iterate 1 refine AOL.s1 (h := ?_)
  refine AOL.nil ?_
  refine AW.kq [0] (h := ?_)
  repeat refine AW.seq ?_
  refine AW.reg ?_
  iterate 1 refine AOL.s1 (h := ?_)
  refine AOL.callD rfl (gadget_one_c) (by kernel_rfl) rfl rfl (h := ?_)
  iterate 2 refine AOL.s1 (h := ?_)
  refine AOL.nil ?_
  refine AW.kq [2] (h := ?_)
  repeat refine AW.seq ?_
  refine AW.fz 1080 rfl (fun h => by cases h) (h := ?_)
  refine AW.ret ?_
  refine ⟨_, [], rfl, HOk.nil _, ?_⟩
  rfl
def freshM (m : Mk) (x : Int) : Mk := ⟨((m.vals.length + 1 : Nat) : Int), m.p, m.rows, m.vals ++ [x % 288230376287764481]⟩
abbrev Mok (k : Nat) (m : Mk) : Prop := m.vals.length + k ≤ 1000000 ∧ m.rows.length + k ≤ 1000000 ∧ wV m.vals ∧ 0 < m.vals.length
theorem Mok.mono {k j : Nat} {m : Mk} (h : Mok k m) (hj : j ≤ k) : Mok j m := ⟨by have := h.1; omega, by have := h.2.1; omega, h.2.2⟩
theorem Mok.fresh {k : Nat} {m : Mk} (h : Mok (k + 1) m) (x : Int) : Mok k (freshM m x) := by
  refine ⟨?_, ?_, ?_, ?_⟩
  · have := h.1; simp only [freshM, List.length_append, List.length_singleton]; omega
  · have := h.2.1; simp only [freshM]; omega
  · intro v hv
    rcases List.mem_append.1 hv with hv | hv
    · exact h.2.2.1 v hv
    · simp only [List.mem_singleton] at hv; subst hv; exact w64_r _
  · simp only [freshM, List.length_append, List.length_singleton]; omega
theorem HOk.three {A B C : Nat × Blk} {r h : List (Nat × Blk)} (e : h = [A, B, C]) : HOk (A :: B :: C :: r) h := by
  subst e
  intro p hp
  simp only [List.mem_cons, List.not_mem_nil, or_false] at hp
  rcases hp with rfl | rfl | rfl <;> simp
theorem fmv_snoc (V : List Int) (x : Int) : fm u1 (V ++ [x]) = fm u1 V ++ [u x] := by rw [fm_app]; rfl
set_option maxHeartbeats 1000000 in
theorem gadget_Maker_fresh_c {m : Mk} {x : Int} (hm : Mok 1 m) (hx : w64 x) : Fn Tryz.prog 34 [.ptr 0 0, u x] [(0, mkB m 1 2), (1, rwB m.rows), (2, vlB m.vals)] (Tells (i m.vals.length) (mkOut (freshM m x))) := by
  refine Fn.enter Tryz.func34 Tryz.ntmps34 rfl (h := ?_)
  have tf := tfm
  have ot_ : (false || true) = true := rfl
  have tfr := tfr
  have lm : m.vals.length < 1000000 := by have := hm.1; omega
  have htm : x.tmod 288230376287764481 = x % 288230376287764481 := Int.tmod_eq_emod_of_nonneg hx.1
  have lc : (fm u1 m.vals).length = m.vals.length := by rw [fm_len u1_len, Nat.mul_one]
  have a1 : (m.vals.length + 1) * 8 ≤ 140737488355328 := by omega
  have a2 : m.vals.length + 1 ≤ 4611686018427387904 := by omega
  have a3 : m.vals.length ≤ 4611686018427387903 := by omega
  have lw : IntKind.i64.wrap (((m.vals.length + 1 : Nat) : Int) - 1) = (m.vals.length : Int) := by rw [wrapI_o (by omega) (by omega)]; omega
  refine AW.mv 1 1001 (h := ?_)
  refine AW.mv 2 1002 (h := ?_)
  repeat refine AW.seq ?_
  refine AW.reg ?_
  iterate 1 refine AOL.s1 (h := ?_)
  refine AOL.nil ?_
  refine AW.kq [0, 1] (h := ?_)
  repeat refine AW.seq ?_
  refine AW.reg ?_
  iterate 12 refine AOL.s1 (h := ?_)
  refine AOL.nil ?_
  refine AW.kq [0] (h := ?_)
  repeat refine AW.seq ?_
  refine AW.reg ?_
  iterate 10 refine AOL.s1 (h := ?_)
  refine AOL.nil ?_
  refine AW.kq [0] (h := ?_)
  repeat refine AW.seq ?_
  refine AW.reg ?_
  iterate 7 refine AOL.s1 (h := ?_)
  refine AOL.nil ?_
  refine AW.kq [4] (h := ?_)
  repeat refine AW.seq ?_
  refine AW.ret ?_
  refine ⟨_, mkOut (freshM m x), rfl, ?_, ?_⟩
  · refine HOk.three ?_
    simp only [freshM, mkOut, mkB, mkC, vlB, fmv_snoc, List.length_append, List.length_singleton]
  · exact Tells.self
def rowM (m : Mk) (a b c : List Tm) : Mk := ⟨m.v, m.p, m.rows ++ [⟨sumT a, sumT b, sumT c⟩], m.vals⟩
theorem fmr_snoc (V : List Rw) (x : Rw) : fm rw_ (V ++ [x]) = fm rw_ V ++ rw_ x := by rw [fm_app]; simp only [fm, List.append_nil]
theorem Mok.row {k : Nat} {m : Mk} (h : Mok (k + 1) m) (a b c : List Tm) : Mok k (rowM m a b c) := by
  refine ⟨?_, ?_, h.2.2⟩
  · have := h.1; simp only [rowM]; omega
  · have := h.2.1; simp only [rowM, List.length_append, List.length_singleton]; omega
abbrev tok (L : List Tm) : Prop := L.length < 1000000 ∧ wT L
set_option maxHeartbeats 1000000 in
theorem gadget_Maker_row_c {m : Mk} {a b c : List Tm} (hm : Mok 1 m) (ha : tok a) (hb : tok b) (hc : tok c) : Fn Tryz.prog 40 [.ptr 0 0, slF tm a, slF tm b, slF tm c] [(0, mkB m 1 2), (1, rwB m.rows), (2, vlB m.vals)] (Tells (.tup []) (mkOut (rowM m a b c))) := by
  refine Fn.enter Tryz.func40 Tryz.ntmps40 rfl (h := ?_)
  have tf := tfm
  have ot_ : (false || true) = true := rfl
  have tfr := tfr
  have lm : m.rows.length < 1000000 := by have := hm.2.1; omega
  have lc : (fm rw_ m.rows).length = m.rows.length * 3 := fm_len rw_len _
  have a1 : (m.rows.length + 1) * 72 ≤ 140737488355328 := by omega
  have a2 : m.rows.length + 1 ≤ 4611686018427387904 := by omega
  have a3 : m.rows.length ≤ 4611686018427387903 := by omega
  have cA := rank_Sum_c (show a.length < 1000000000 by have := ha.1; omega) ha.2
  have cB := rank_Sum_c (show b.length < 1000000000 by have := hb.1; omega) hb.2
  have cC := rank_Sum_c (show c.length < 1000000000 by have := hc.1; omega) hc.2
  refine AW.mv 1 1001 (h := ?_)
  refine AW.mv 2 1002 (h := ?_)
  repeat refine AW.seq ?_
  refine AW.da 15 (by kernel_rfl) (h := ?_)
  iterate 7 refine ADP.d1 (h := ?_)
  refine ADP.call rfl (cA) (by kernel_rfl) rfl rfl (h := ?_)
  iterate 1 refine ADP.d1 (h := ?_)
  refine ADP.call rfl (cB) (by kernel_rfl) rfl rfl (h := ?_)
  iterate 1 refine ADP.d1 (h := ?_)
  refine ADP.call rfl (cC) (by kernel_rfl) rfl rfl (h := ?_)
  iterate 2 refine ADP.d1 (h := ?_)
  refine ADP.app 1001 (h := ?_)
  refine ADP.doneF hmix [(0, 0)] (by kernel_rfl) rfl (hF := ?_) (hT := ?_)
  · intro p_ hp_; simp only [List.mem_cons, List.not_mem_nil, or_false] at hp_; rcases hp_ with rfl <;> exact ⟨_, _, _, by simp, rfl, rfl, rfl, rfl, rfl, rfl, rfl, rfl⟩
  iterate 4 refine AOL.s1 (h := ?_)
  refine AOL.nil ?_
  refine ⟨_, mkOut (rowM m a b c), rfl, ?_, ?_⟩
  · refine HOk.three ?_
    simp only [rowM, mkOut, mkB, mkC, rwB, fmr_snoc, List.length_append, List.length_singleton]
  · exact Tells.self
end Go.Proofs.YtngphcdhdllnnaaGreat.E.M
end
section
/- gadget: a maker's methods: contracts over E. -/
set_option linter.unusedVariables false
set_option linter.unusedSimpArgs false
set_option maxRecDepth 10000
open Go Go.Proofs.YtngphcdhdllnnaaGreat.E Go.Proofs
namespace Go.Proofs.YtngphcdhdllnnaaGreat.E.M
theorem tok_len {L : List Tm} (h : tok L) : L.length < 1000000000 := by have := h.1; omega
set_option maxHeartbeats 1000000 in
theorem clone_own {L : List Tm} (hl : tok L) : Fn Tryz.prog 43 [slF tm L] [] (Tells (.ref 1000 0 L.length 2) [(1000, ⟨80, false, fm tm L⟩)]) := by
  refine Fn.enter Tryz.func43 Tryz.ntmps43 rfl (h := ?_)
  have tf := tfm
  have ot_ : (false || true) = true := rfl
  have tfr := tfr
  have lL := hl.1
  have lc : (fm tm L).length = L.length * 2 := fm_len tm_len _
  have a1 : L.length * 16 ≤ 140737488355328 := by omega
  have a2 : L.length ≤ 4611686018427387904 := by omega
  repeat refine AW.seq ?_
  refine AW.reg ?_
  iterate 1 refine AOL.s1 (h := ?_)
  refine AOL.nil ?_
  refine AW.kq [0] (h := ?_)
  repeat refine AW.seq ?_
  refine AW.reg ?_
  iterate 1 refine AOL.s1 (h := ?_)
  refine AOL.eqNil rfl (h := ?_)
  intro b hb
  refine AOL.nil ?_
  refine AW.kq [0, 4] (h := ?_)
  repeat refine AW.seq ?_
  refine AW.cond rfl (fun c_ => ?_) (fun c_ => ?_)
  · have hL : L = [] := List.eq_nil_of_length_eq_zero (hb (by simpa using c_))
    subst hL
    repeat refine AW.seq ?_
    refine AW.reg ?_
    iterate 1 refine AOL.s1 (h := ?_)
    refine AOL.nil ?_
    refine AW.kq [2] (h := ?_)
    repeat refine AW.seq ?_
    refine AW.blank 1000 80 (h := ?_)
    refine AW.wk 2 rfl (Wk.ref0 1000 2) (h := ?_)
    refine AW.ret ?_
    refine ⟨_, [(1000, _)], rfl, (fun p_ hp_ => by simp only [List.mem_singleton] at hp_; subst hp_; first | exact List.mem_cons_self | exact List.mem_cons_of_mem _ List.mem_cons_self | exact List.mem_cons_of_mem _ (List.mem_cons_of_mem _ List.mem_cons_self)), ?_⟩
    refine Tells.one 1000 (by decide) ?_
    first | rfl | exact frees_fm (fun _ => rfl) _ | exact a64_free _ | exact by8_free _
    skip
  refine AW.skip ?_
  repeat refine AW.seq ?_
  refine AW.reg ?_
  iterate 4 refine AOL.s1 (h := ?_)
  refine AOL.nil ?_
  refine AW.kq [2] (h := ?_)
  repeat refine AW.seq ?_
  refine AW.ret ?_
  refine ⟨_, [(1080, _)], rfl, (fun p_ hp_ => by simp only [List.mem_singleton] at hp_; subst hp_; first | exact List.mem_cons_self | exact List.mem_cons_of_mem _ List.mem_cons_self | exact List.mem_cons_of_mem _ (List.mem_cons_of_mem _ List.mem_cons_self)), ?_⟩
  refine Tells.one 1080 (by decide) ?_
  first | rfl | exact frees_fm (fun _ => rfl) _ | exact a64_free _ | exact by8_free _
  skip
theorem clone_fro {L : List Tm} (hl : tok L) : Fn Tryz.prog 43 [slF tm L] [] (fun r _ => r = slF tm L) := by
  have h := (clone_own hl).frozen (tm_free L)
  have e : frz 1000 (fm tm L) (.ref 1000 0 L.length 2) = slF tm L := by
    simp only [frz, if_true]
    rw [sub_all (by rw [fm_len tm_len]; exact Nat.le_refl _)]
  rwa [e] at h
set_option maxHeartbeats 1000000 in
theorem gadget_Maker_Private_c {m : Mk} {x : Int} (hm : Mok 1 m) (hx : w64 x) : Fn Tryz.prog 13 [.ptr 0 0, u x] [(0, mkB m 1 2), (1, rwB m.rows), (2, vlB m.vals)] (Tells (i m.vals.length) (mkOut (freshM m x))) := by
  refine Fn.enter Tryz.func13 Tryz.ntmps13 rfl (h := ?_)
  have tf := tfm
  have ot_ : (false || true) = true := rfl
  refine AW.mv 1 1001 (h := ?_)
  refine AW.mv 2 1002 (h := ?_)
  repeat refine AW.seq ?_
  refine AW.reg ?_
  iterate 1 refine AOL.s1 (h := ?_)
  refine AOL.nil ?_
  refine AW.kq [0, 1] (h := ?_)
  repeat refine AW.seq ?_
  refine AW.reg ?_
  iterate 2 refine AOL.s1 (h := ?_)
  refine AOL.callM (l := 0) (b := 1000) (gadget_Maker_fresh_c hm hx) rfl (by kernel_rfl) rfl rfl rfl rfl rfl (hst := by simp only [St.drops, St.drop, mapT, mapH, kill, kills, del, St.put, ins, reduceIte, Nat.reduceAdd, Nat.reduceLT, Nat.reduceEqDiff, Bool.false_eq_true]; exact rfl) ?_
  iterate 1 refine AOL.s1 (h := ?_)
  refine AOL.nil ?_
  refine AW.kq [4] (h := ?_)
  repeat refine AW.seq ?_
  refine AW.ret ?_
  refine ⟨_, mkOut (freshM m x), rfl, ?_, ?_⟩
  · exact fun p hp => hp
  · exact Tells.self
def pubM (m : Mk) (x : Int) : Mk := if m.v > m.p + 1 then m else freshM ⟨m.v, m.p + 1, m.rows, m.vals⟩ x
def pubI (m : Mk) : Int := if m.v > m.p + 1 then -1 else (m.vals.length : Int)
def pubE (m : Mk) : Value := if m.v > m.p + 1 then .iface 41 (.int .i64 1) else .nilIface
abbrev pubR (m : Mk) : List AV := [i (pubI m), .val (pubE m)]
set_option maxHeartbeats 1000000 in
theorem gadget_Maker_Public_c {m : Mk} {x : Int} (hm : Mok 1 m) (hx : w64 x) (hp : 0 ≤ m.p ∧ m.p < 1000000) : Fn Tryz.prog 11 [.ptr 0 0, u x] [(0, mkB m 1 2), (1, rwB m.rows), (2, vlB m.vals)] (Tells (.tup (pubR m)) (mkOut (pubM m x))) := by
  refine Fn.enter Tryz.func11 Tryz.ntmps11 rfl (h := ?_)
  have tf := tfm
  have ot_ : (false || true) = true := rfl
  have tfr := tfr
  have hw : IntKind.i64.wrap (m.p + 1) = m.p + 1 := wrapI_o (by omega) (by omega)
  refine AW.mv 1 1001 (h := ?_)
  refine AW.mv 2 1002 (h := ?_)
  repeat refine AW.seq ?_
  refine AW.reg ?_
  iterate 2 refine AOL.s1 (h := ?_)
  refine AOL.nil ?_
  refine AW.kq [0, 1] (h := ?_)
  repeat refine AW.seq ?_
  refine AW.drw 11 [] (by kernel_rfl) (h := ?_)
  iterate 11 refine ADL.dm 1 (h := ?_)
  refine ADL.done hmix rfl rfl (hT := ?_)
  iterate 1 refine AOL.s1 (h := ?_)
  refine AOL.nil ?_
  refine AW.kq [0, 1, 17] (h := ?_)
  repeat refine AW.seq ?_
  refine AW.cond rfl (fun c_ => ?_) (fun c_ => ?_)
  · have e1 : pubM m x = m := if_pos (by simpa using c_)
    have e2 : pubR m = [i (-1), er 1] := by unfold pubR pubI pubE; rw [if_pos (by simpa using c_), if_pos (by simpa using c_)]
    rw [e1, e2]
    repeat refine AW.seq ?_
    refine AW.reg ?_
    iterate 3 refine AOL.s1 (h := ?_)
    refine AOL.nil ?_
    refine AW.kq [4, 5] (h := ?_)
    repeat refine AW.seq ?_
    refine AW.ret ?_
    refine ⟨_, mkOut m, rfl, ?_, ?_⟩
    · exact fun p hp => hp
    · exact Tells.self
  have e1 : pubM m x = freshM ⟨m.v, m.p + 1, m.rows, m.vals⟩ x := if_neg (by simp at c_; omega)
  have e2 : pubR m = [i m.vals.length, nil_] := by unfold pubR pubI pubE; rw [if_neg (by simp at c_; omega), if_neg (by simp at c_; omega)]
  rw [e1, e2]
  refine AW.skip ?_
  repeat refine AW.seq ?_
  refine AW.reg ?_
  iterate 10 refine AOL.s1 (h := ?_)
  refine AOL.nil ?_
  refine AW.kq [0, 1] (h := ?_)
  repeat refine AW.seq ?_
  refine AW.reg ?_
  iterate 2 refine AOL.s1 (h := ?_)
  refine AOL.callM (l := 0) (b := 1000) (gadget_Maker_fresh_c (m := ⟨m.v, m.p + 1, m.rows, m.vals⟩) hm hx) rfl (by kernel_rfl) rfl rfl rfl rfl rfl (hst := by simp only [St.drops, St.drop, mapT, mapH, kill, kills, del, St.put, ins, reduceIte, Nat.reduceAdd, Nat.reduceLT, Nat.reduceEqDiff, Bool.false_eq_true]; exact rfl) ?_
  iterate 2 refine AOL.s1 (h := ?_)
  refine AOL.nil ?_
  refine AW.kq [4, 5] (h := ?_)
  repeat refine AW.seq ?_
  refine AW.ret ?_
  refine ⟨_, mkOut (freshM ⟨m.v, m.p + 1, m.rows, m.vals⟩ x), rfl, ?_, ?_⟩
  · exact fun p hp => hp
  · exact Tells.self
def valM (V : List Int) (a : Int) : Int := V[(isM V a).toNat]?.getD 0
abbrev one1 (v : Int) : List Tm := [⟨v, 1⟩]
theorem w64_1 : w64 1 := by decide
theorem tok_1 (v : Int) : tok (one1 v) := ⟨by simp, fun t ht => by simp only [List.mem_singleton] at ht; subst ht; exact w64_1⟩
theorem val_w (V : List Int) (L : List Tm) : w64 (valF V 0 L) := valF_w L (by decide)
def prodM (m : Mk) (a b : List Tm) : Mk := rowM (freshM m (valF m.vals 0 a * valF m.vals 0 b % 288230376287764481)) a b (one1 m.vals.length)
theorem Mok.prod {k : Nat} {m : Mk} (h : Mok (k + 2) m) (a b : List Tm) : Mok k (prodM m a b) := (Mok.fresh h _).row _ _ _
set_option maxHeartbeats 1000000 in
theorem gadget_Maker_product_c {m : Mk} {a b : List Tm} (hm : Mok 2 m) (ha : tok a) (hb : tok b) : Fn Tryz.prog 63 [.ptr 0 0, slF tm a, slF tm b] [(0, mkB m 1 2), (1, rwB m.rows), (2, vlB m.vals)] (Tells (i m.vals.length) (mkOut (prodM m a b))) := by
  refine Fn.enter Tryz.func63 Tryz.ntmps63 rfl (h := ?_)
  have tf := tfm
  have ot_ : (false || true) = true := rfl
  have tfr := tfr
  have hv := hm.2.2.1
  have cM := modular_Mul_c hR (val_w m.vals a) (val_w m.vals b)
  have cF := gadget_Maker_fresh_c (Mok.mono hm (by decide)) (w64_r (valF m.vals 0 a * valF m.vals 0 b))
  have cR := gadget_Maker_row_c (Mok.fresh hm (valF m.vals 0 a * valF m.vals 0 b % 288230376287764481)) ha hb (tok_1 m.vals.length)
  refine AW.mv 1 1001 (h := ?_)
  refine AW.mv 2 1002 (h := ?_)
  repeat refine AW.seq ?_
  refine AW.reg ?_
  iterate 1 refine AOL.s1 (h := ?_)
  refine AOL.nil ?_
  refine AW.kq [0, 1, 2] (h := ?_)
  repeat refine AW.seq ?_
  refine AW.drw 14 [] (by kernel_rfl) (h := ?_)
  iterate 6 refine ADL.dm 1 (h := ?_)
  refine ADL.callF rfl (valC (tok_len ha) hv ha.2 rfl) (by kernel_rfl) (h := ?_)
  iterate 5 refine ADL.dm 1 (h := ?_)
  refine ADL.callF rfl (valC (tok_len hb) hv hb.2 rfl) (by kernel_rfl) (h := ?_)
  refine ADL.call rfl (cM) (by kernel_rfl) rfl rfl (h := ?_)
  refine ADL.done hmix rfl rfl (hT := ?_)
  refine AOL.callM (l := 0) (b := 1000) (cF) rfl (by kernel_rfl) rfl rfl rfl rfl rfl (hst := by simp only [St.drops, St.drop, mapT, mapH, kill, kills, del, St.put, ins, reduceIte, Nat.reduceAdd, Nat.reduceLT, Nat.reduceEqDiff, Bool.false_eq_true]; exact rfl) ?_
  iterate 1 refine AOL.s1 (h := ?_)
  refine AOL.nil ?_
  refine AW.kq [0, 1, 2, 7] (h := ?_)
  repeat refine AW.seq ?_
  refine AW.reg ?_
  iterate 4 refine AOL.s1 (h := ?_)
  refine AOL.callD rfl (gadget_just_c) (by kernel_rfl) rfl rfl (h := ?_)
  refine AOL.callM (l := 0) (b := 1000) (cR) rfl (by kernel_rfl) rfl rfl rfl rfl rfl (hst := by simp only [St.drops, St.drop, mapT, mapH, kill, kills, del, St.put, ins, reduceIte, Nat.reduceAdd, Nat.reduceLT, Nat.reduceEqDiff, Bool.false_eq_true]; exact rfl) ?_
  refine AOL.nil ?_
  refine AW.kq [7] (h := ?_)
  repeat refine AW.seq ?_
  refine AW.reg ?_
  iterate 2 refine AOL.s1 (h := ?_)
  refine AOL.nil ?_
  refine AW.kq [6] (h := ?_)
  repeat refine AW.seq ?_
  refine AW.ret ?_
  refine ⟨_, mkOut (prodM m a b), rfl, ?_, ?_⟩
  · exact fun p hp => hp
  · exact Tells.self
abbrev two1 (v w k : Int) : List Tm := [⟨v, 1⟩, ⟨w, k⟩]
theorem tok_2 {v w k : Int} (hk : w64 k) : tok (two1 v w k) := by
  refine ⟨by simp, fun t ht => ?_⟩
  simp only [List.mem_cons, List.not_mem_nil, or_false] at ht
  rcases ht with rfl | rfl
  · exact w64_1
  · exact hk
theorem w64_m1 : w64 288230376287764480 := by decide
abbrev isMk (m : Mk) (a : Int) : Int := isM m.vals a
def mulM (m : Mk) (a b : Int) : Mk := prodM m (one1 (isMk m a)) (one1 (isMk m b))
set_option maxHeartbeats 1000000 in
theorem gadget_Maker_Mul_c {m : Mk} {a b : Int} (hm : Mok 2 m) : Fn Tryz.prog 38 [.ptr 0 0, i a, i b] [(0, mkB m 1 2), (1, rwB m.rows), (2, vlB m.vals)] (Tells (i m.vals.length) (mkOut (mulM m a b))) := by
  refine Fn.enter Tryz.func38 Tryz.ntmps38 rfl (h := ?_)
  have tf := tfm
  have ot_ : (false || true) = true := rfl
  have tfr := tfr
  refine AW.mv 1 1001 (h := ?_)
  refine AW.mv 2 1002 (h := ?_)
  repeat refine AW.seq ?_
  refine AW.reg ?_
  iterate 1 refine AOL.s1 (h := ?_)
  refine AOL.nil ?_
  refine AW.kq [0, 1, 2] (h := ?_)
  repeat refine AW.seq ?_
  refine AW.reg ?_
  iterate 3 refine AOL.s1 (h := ?_)
  refine AOL.callF rfl (isF rfl rfl rfl) (by kernel_rfl) (h := ?_)
  refine AOL.callD rfl (gadget_just_c) (by kernel_rfl) rfl rfl (h := ?_)
  iterate 2 refine AOL.s1 (h := ?_)
  refine AOL.callF rfl (isF rfl rfl rfl) (by kernel_rfl) (h := ?_)
  refine AOL.callD rfl (gadget_just_c) (by kernel_rfl) rfl rfl (h := ?_)
  refine AOL.callM (l := 0) (b := 1000) (gadget_Maker_product_c hm (tok_1 (isMk m a)) (tok_1 (isMk m b))) rfl (by kernel_rfl) rfl rfl rfl rfl rfl (hst := by simp only [St.drops, St.drop, mapT, mapH, kill, kills, del, St.put, ins, reduceIte, Nat.reduceAdd, Nat.reduceLT, Nat.reduceEqDiff, Bool.false_eq_true]; exact rfl) ?_
  iterate 1 refine AOL.s1 (h := ?_)
  refine AOL.nil ?_
  refine AW.kq [6] (h := ?_)
  repeat refine AW.seq ?_
  refine AW.ret ?_
  refine ⟨_, mkOut (mulM m a b), rfl, ?_, ?_⟩
  · exact fun p hp => hp
  · exact Tells.self
def sameM (m : Mk) (a b : Int) : Mk := rowM m (two1 (isMk m a) (isMk m b) 288230376287764480) (one1 0) []
theorem tok_0 : tok [] := ⟨by simp, fun t ht => by cases ht⟩
theorem row_nil {m : Mk} {a b : List Tm} (hm : Mok 1 m) (ha : tok a) (hb : tok b) : Fn Tryz.prog 40 [.ptr 0 0, slF tm a, slF tm b, .val (.slice none 0 0)] [(0, mkB m 1 2), (1, rwB m.rows), (2, vlB m.vals)] (Tells (.tup []) (mkOut (rowM m a b []))) :=
  (gadget_Maker_row_c hm ha hb tok_0).wk (Wks.cons (Wk.refl _) (Wks.cons (Wk.refl _) (Wks.cons (Wk.refl _) (Wks.cons Wk.nilS Wks.nil))))
set_option maxHeartbeats 1000000 in
theorem gadget_Maker_Same_c {m : Mk} {a b : Int} (hm : Mok 1 m) : Fn Tryz.prog 16 [.ptr 0 0, i a, i b] [(0, mkB m 1 2), (1, rwB m.rows), (2, vlB m.vals)] (Tells (.tup []) (mkOut (sameM m a b))) := by
  refine Fn.enter Tryz.func16 Tryz.ntmps16 rfl (h := ?_)
  have tf := tfm
  have ot_ : (false || true) = true := rfl
  have tfr := tfr
  refine AW.mv 1 1001 (h := ?_)
  refine AW.mv 2 1002 (h := ?_)
  repeat refine AW.seq ?_
  refine AW.reg ?_
  iterate 3 refine AOL.s1 (h := ?_)
  refine AOL.callF rfl (isF rfl rfl rfl) (by kernel_rfl) (h := ?_)
  refine AOL.callD rfl (gadget_one_c) (by kernel_rfl) rfl rfl (h := ?_)
  iterate 2 refine AOL.s1 (h := ?_)
  refine AOL.callF rfl (isF rfl rfl rfl) (by kernel_rfl) (h := ?_)
  refine AOL.callD rfl (gadget_one_c) (by kernel_rfl) rfl rfl (h := ?_)
  iterate 1 refine AOL.s1 (h := ?_)
  refine AOL.fz 1240 rfl (fun h => by cases h) (h := ?_)
  refine AOL.callD rfl (gadget_just_c) (by kernel_rfl) rfl rfl (h := ?_)
  refine AOL.callM (l := 0) (b := 1000) (row_nil (a := two1 (isMk m a) (isMk m b) 288230376287764480) hm (tok_2 w64_m1) (tok_1 0)) rfl (by kernel_rfl) rfl rfl rfl rfl rfl (hst := by simp only [St.drops, St.drop, mapT, mapH, kill, kills, del, St.put, ins, reduceIte, Nat.reduceAdd, Nat.reduceLT, Nat.reduceEqDiff, Bool.false_eq_true]; exact rfl) ?_
  refine AOL.nil ?_
  refine ⟨_, mkOut (sameM m a b), rfl, ?_, ?_⟩
  · exact fun p hp => hp
  · exact Tells.self
def ownT (V : List Int) (L : List Tm) : List Tm := L.map fun t => ⟨isM V t.v, t.k⟩
theorem tok_own {V : List Int} {L : List Tm} (h : tok L) : tok (ownT V L) := by
  refine ⟨by simp only [ownT, List.length_map]; exact h.1, fun t ht => ?_⟩
  obtain ⟨s, hs, rfl⟩ := List.mem_map.1 ht
  exact h.2 s hs
def linM (m : Mk) (L : List Tm) : Mk := rowM (freshM m (valF m.vals 0 (ownT m.vals L))) (ownT m.vals L) (one1 0) (one1 m.vals.length)
theorem Mok.lin {k : Nat} {m : Mk} (h : Mok (k + 2) m) (L : List Tm) : Mok k (linM m L) := (Mok.fresh h _).row _ _ _
theorem own_at (V : List Int) {L : List Tm} {k : Nat} (h : k < L.length) : (ownT V (L.take k) ++ L.drop k)[k]? = some L[k] := by
  rw [List.getElem?_append_right (by simp [ownT]; omega)]
  simp [ownT, Nat.min_eq_left (Nat.le_of_lt h), h]
theorem own_set (V : List Int) {L : List Tm} {k : Nat} (h : k < L.length) : (fm tm (ownT V (L.take k) ++ L.drop k)).set (k * 2) (i (isM V L[k].v)) = fm tm (ownT V (L.take (k + 1)) ++ L.drop (k + 1)) := by
  have hl : (ownT V (L.take k)).length = k := by simp [ownT]; omega
  rw [List.drop_eq_getElem_cons h, List.take_add_one, List.getElem?_eq_getElem h]
  simp only [ownT, List.map_append, Option.toList_some, List.map_cons, List.map_nil, fm_app, List.append_assoc]
  rw [List.set_append_right _ _ (by rw [fm_len tm_len, List.length_map, List.length_take]; omega), fm_len tm_len, List.length_map, List.length_take]
  rw [show k * 2 - min k L.length * 2 = 0 by omega]
  rfl
set_option maxHeartbeats 4000000 in
theorem gadget_Maker_Linear_c {m : Mk} {L : List Tm} (hm : Mok 2 m) (hL : tok L) : Fn Tryz.prog 35 [.ptr 0 0, slF tm L] [(0, mkB m 1 2), (1, rwB m.rows), (2, vlB m.vals)] (Tells (i m.vals.length) (mkOut (linM m L))) := by
  refine Fn.enter Tryz.func35 Tryz.ntmps35 rfl (h := ?_)
  have tf := tfm
  have ot_ : (false || true) = true := rfl
  have tfr := tfr
  have lL := hL.1
  have hv := hm.2.2.1
  have cF := gadget_Maker_fresh_c (Mok.mono hm (by decide)) (val_w m.vals (ownT m.vals L))
  have cR := gadget_Maker_row_c (Mok.fresh hm (valF m.vals 0 (ownT m.vals L))) (tok_own (V := m.vals) hL) (tok_1 0) (tok_1 m.vals.length)
  have hn : (ownT m.vals L).length = L.length := by simp [ownT]
  refine AW.mv 1 1001 (h := ?_)
  refine AW.mv 2 1002 (h := ?_)
  repeat refine AW.seq ?_
  refine AW.reg ?_
  iterate 1 refine AOL.s1 (h := ?_)
  refine AOL.nil ?_
  refine AW.kq [0, 1] (h := ?_)
  repeat refine AW.seq ?_
  refine AW.reg ?_
  iterate 1 refine AOL.s1 (h := ?_)
  refine AOL.callO 1144 (clone_own hL) rfl (by kernel_rfl) rfl (by first | rfl | exact frees_fm (fun _ => rfl) _ | exact a64_free _ | exact by8_free _) (by intro l_ hl_; simp [labs, labss] at hl_ <;> exact hl_) (by decide) (by simp only [St.drop, mapT, mapH, kill, kills, del, St.put, ins, ren, rens, reduceIte, Nat.reduceLT, Nat.reduceEqDiff, Bool.false_eq_true]; exact rfl) ?_
  iterate 1 refine AOL.s1 (h := ?_)
  refine AOL.nil ?_
  refine AW.kq [0, 5] (h := ?_)
  repeat refine AW.seq ?_
  refine AW.reg ?_
  iterate 3 refine AOL.s1 (h := ?_)
  refine AOL.nil ?_
  refine AW.kq [0, 5, 11, 12] (h := ?_)
  repeat refine AW.seq ?_
  refine AW.block ?_
  repeat refine AW.seq ?_
  refine AW.loopK [0, 5, 11, 12] (fun n s => ∃ (k : Nat) (M : List Tm), s = ⟨42, [(0, .ptr 0 0), (5, .ref 1144 0 L.length 2), (11, i L.length), (12, i k)], [(0, mkB m 1001 1002), (1001, rwB m.rows), (1002, vlB m.vals), (1144, ⟨80, false, fm tm M⟩)]⟩ ∧ k ≤ L.length ∧ n = L.length - k ∧ id (M = ownT m.vals (L.take k) ++ L.drop k)) (L.length) ?_ ?_
  · exact ⟨0, L, rfl, Nat.zero_le _, rfl, rfl⟩
  rintro n s ⟨k, M, rfl, hkl, rfl, hM⟩
  repeat refine AW.seq ?_
  refine AW.reg ?_
  iterate 1 refine AOL.s1 (h := ?_)
  refine AOL.nil ?_
  refine AW.kq [0, 5, 11, 12, 13] (h := ?_)
  repeat refine AW.seq ?_
  refine AW.cond rfl (fun c_ => ?_) (fun c_ => ?_)
  · have h1 : k < L.length := by simpa using c_
    have k0 : (0:Int) ≤ k := by omega
    have k1 : (k:Int) < L.length := by omega
    have hw := incq h1 (tok_len hL)
    have hd : (fm tm M).drop (k * 2) = i L[k].v :: u L[k].k :: fm tm (M.drop (k + 1)) := tm_at (by rw [show M = _ from hM]; exact own_at m.vals h1)
    have hlM : (fm tm M).length = L.length * 2 := by rw [fm_len tm_len, show M = _ from hM]; simp [ownT]; omega
    have hb : k * 2 + 1 ≤ L.length * 2 := by omega
    have hst : (fm tm M).set (k * 2) (i (isM m.vals L[k].v)) = fm tm (ownT m.vals (L.take (k + 1)) ++ L.drop (k + 1)) := by rw [show M = _ from hM]; exact own_set m.vals h1
    clear hM c_
    generalize L[k] = t at *
    obtain ⟨tv, tk⟩ := t
    refine AW.skip ?_
    repeat refine AW.seq ?_
    refine AW.block ?_
    repeat refine AW.seq ?_
    refine AW.reg ?_
    iterate 2 refine AOL.s1 (h := ?_)
    refine AOL.nil ?_
    refine AW.kq [0, 5, 6, 11, 12] (h := ?_)
    repeat refine AW.seq ?_
    refine AW.reg ?_
    iterate 8 refine AOL.s1 (h := ?_)
    refine AOL.callF rfl (isF rfl rfl rfl) (by kernel_rfl) (h := ?_)
    iterate 3 refine AOL.s1 (h := ?_)
    refine AOL.nil ?_
    repeat refine AW.seq ?_
    refine AW.reg ?_
    iterate 2 refine AOL.s1 (h := ?_)
    refine AOL.nil ?_
    refine ⟨L.length - (k + 1), by omega, k + 1, _, by rw [← hst]; rfl, h1, rfl, rfl⟩
  · have hk : k = L.length := by simp at c_; omega
    subst hk
    rw [List.take_of_length_le (Nat.le_refl _), List.drop_of_length_le (Nat.le_refl _), List.append_nil] at hM
    obtain rfl : M = ownT m.vals L := hM
    have hfz : AV.sl L.length (sub 0 (L.length * 2) (fm tm (ownT m.vals L))) = slF tm (ownT m.vals L) := by
      rw [sub_all (by rw [fm_len tm_len, hn]; exact Nat.le_refl _)]
      show AV.sl _ _ = AV.sl _ _
      rw [hn]
    refine AW.fz 1144 rfl (fun h => by cases h) (h := ?_)
    rw [hfz]
    clear hn hfz
    repeat refine AW.seq ?_
    refine AW.exit ?_
    repeat (first | refine Kseq.ex ?_ | refine Kloop.ex ?_ | refine Kblock.miss (by decide) ?_)
    refine Kblock.hit ?_
    refine AW.kq [0, 5] (h := ?_)
    repeat refine AW.seq ?_
    refine AW.reg ?_
    iterate 6 refine AOL.s1 (h := ?_)
    refine AOL.callF rfl (valC (tok_len (tok_own hL)) hv (tok_own hL).2 rfl) (by kernel_rfl) (h := ?_)
    refine AOL.callM (l := 0) (b := 1000) (cF) rfl (by kernel_rfl) rfl rfl rfl rfl rfl (hst := by simp only [St.drops, St.drop, mapT, mapH, kill, kills, del, St.put, ins, reduceIte, Nat.reduceAdd, Nat.reduceLT, Nat.reduceEqDiff, Bool.false_eq_true]; exact rfl) ?_
    iterate 1 refine AOL.s1 (h := ?_)
    refine AOL.nil ?_
    refine AW.kq [0, 5, 7] (h := ?_)
    repeat refine AW.seq ?_
    refine AW.reg ?_
    iterate 2 refine AOL.s1 (h := ?_)
    refine AOL.callD rfl (gadget_just_c) (by kernel_rfl) rfl rfl (h := ?_)
    iterate 1 refine AOL.s1 (h := ?_)
    refine AOL.callD rfl (gadget_just_c) (by kernel_rfl) rfl rfl (h := ?_)
    refine AOL.callM (l := 0) (b := 1000) (cR) rfl (by kernel_rfl) rfl rfl rfl rfl rfl (hst := by simp only [St.drops, St.drop, mapT, mapH, kill, kills, del, St.put, ins, reduceIte, Nat.reduceAdd, Nat.reduceLT, Nat.reduceEqDiff, Bool.false_eq_true]; exact rfl) ?_
    refine AOL.nil ?_
    refine AW.kq [7] (h := ?_)
    repeat refine AW.seq ?_
    refine AW.reg ?_
    iterate 2 refine AOL.s1 (h := ?_)
    refine AOL.nil ?_
    refine AW.kq [4] (h := ?_)
    repeat refine AW.seq ?_
    refine AW.ret ?_
    refine ⟨_, mkOut (linM m L), rfl, ?_, ?_⟩
    · exact fun p hp => hp
    · exact Tells.self
def choM (m : Mk) (c a b : Int) : Mk :=
  rowM (freshM m ((valM m.vals b + valM m.vals c * valF m.vals 0 (sumT (two1 (isMk m a) (isMk m b) 288230376287764480)) % 288230376287764481) % 288230376287764481)) (one1 (isMk m c)) (two1 (isMk m a) (isMk m b) 288230376287764480) (two1 m.vals.length (isMk m b) 288230376287764480)
theorem Mok.cho {k : Nat} {m : Mk} (h : Mok (k + 2) m) (c a b : Int) : Mok k (choM m c a b) := (Mok.fresh h _).row _ _ _
theorem valM_at {V : List Int} (hv : wV V) (h0 : 0 < V.length) (a : Int) : ∃ n : Nat, isM V a = n ∧ (n:Int) < V.length ∧ (fm u1 V).drop n = u (valM V a) :: fm u1 (V.drop (n + 1)) ∧ w64 (valM V a) := by
  obtain ⟨j0, j1⟩ := isM_in h0 a
  obtain ⟨n, hn⟩ : ∃ n : Nat, isM V a = n := ⟨(isM V a).toNat, by omega⟩
  have hV : valM V a = V[n]?.getD 0 := by unfold valM; rw [hn]; rfl
  rw [hn] at j1
  obtain ⟨v, hv1, hv2, hv3⟩ := at_nat j1 hv
  refine ⟨n, hn, j1, ?_, ?_⟩
  · rw [hV, hv1]; exact hv3
  · rw [hV, hv1]; exact hv2
theorem sumT_w (L : List Tm) : wT (sumT L) := fun t ht => by have := (sumT_is L).pos t ht; exact ⟨by omega, by omega⟩
theorem sumT_len (L : List Tm) : (sumT L).length ≤ L.length := by
  have h1 : ∀ (r : List Tm) (p : Option Int) (out : List Tm), (accS p out r).length ≤ out.length + r.length := by
    intro r
    induction r with
    | nil => intro p out; simp [accS]
    | cons t r ih =>
      intro p out
      simp only [accS]
      split
      · have := ih (some t.v) out; simp only [List.length_cons]; omega
      · refine Nat.le_trans (ih _ _) ?_
        rw [addL_len]
        split
        · simp only [List.length_cons]; omega
        · simp only [List.length_append, List.length_cons, List.length_nil]; omega
  have h2 : (sumT L).length ≤ (accS none [] (srt L)).length := List.length_filter_le _ _
  have h3 := h1 (srt L) none []
  rw [(srt_perm L).length_eq] at h3
  simp at h3; omega
set_option maxHeartbeats 4000000 in
theorem gadget_Maker_Choose_c {m : Mk} {c a b : Int} (hm : Mok 2 m) : Fn Tryz.prog 37 [.ptr 0 0, i c, i a, i b] [(0, mkB m 1 2), (1, rwB m.rows), (2, vlB m.vals)] (Tells (i m.vals.length) (mkOut (choM m c a b))) := by
  refine Fn.enter Tryz.func37 Tryz.ntmps37 rfl (h := ?_)
  have tf := tfm
  have ot_ : (false || true) = true := rfl
  have tfr := tfr
  have hv := hm.2.2.1
  obtain ⟨nc, hc1, hc2, hc3, hc4⟩ := valM_at hv hm.2.2.2 c
  obtain ⟨nb, hb1, hb2, hb3, hb4⟩ := valM_at hv hm.2.2.2 b
  have lT := tok_2 (v := isMk m a) (w := nb) w64_m1
  have cS := rank_Sum_c (tok_len lT) lT.2
  have hL := tok_len lT
  have hS : (sumT (two1 (isMk m a) (nb) 288230376287764480)).length < 1000000000 := Nat.lt_of_le_of_lt (sumT_len _) hL
  have hW := sumT_w (two1 (isMk m a) (nb) 288230376287764480)
  have cM := modular_Mul_c hR hc4 (val_w m.vals (sumT (two1 (isMk m a) (nb) 288230376287764480)))
  have cA := modular_Add_c hR hb4 (w64_r (valM m.vals c * valF m.vals 0 (sumT (two1 (isMk m a) (nb) 288230376287764480))))
  have cF := gadget_Maker_fresh_c (Mok.mono hm (by decide)) (w64_r (valM m.vals b + valM m.vals c * valF m.vals 0 (sumT (two1 (isMk m a) (nb) 288230376287764480)) % 288230376287764481))
  have cR := gadget_Maker_row_c (Mok.fresh hm ((valM m.vals b + valM m.vals c * valF m.vals 0 (sumT (two1 (isMk m a) (nb) 288230376287764480)) % 288230376287764481) % 288230376287764481)) (tok_1 (nc)) lT (tok_2 (v := m.vals.length) (w := nb) w64_m1)
  have e : choM m c a b = rowM (freshM m ((valM m.vals b + valM m.vals c * valF m.vals 0 (sumT (two1 (isMk m a) nb 288230376287764480)) % 288230376287764481) % 288230376287764481)) (one1 nc) (two1 (isMk m a) nb 288230376287764480) (two1 m.vals.length nb 288230376287764480) := by
    unfold choM isMk; rw [hb1, hc1]
  rw [e]
  replace e : id (_ = _) := e
  refine AW.mv 1 1001 (h := ?_)
  refine AW.mv 2 1002 (h := ?_)
  repeat refine AW.seq ?_
  refine AW.reg ?_
  iterate 1 refine AOL.s1 (h := ?_)
  refine AOL.nil ?_
  refine AW.kq [0, 1, 2, 3] (h := ?_)
  repeat refine AW.seq ?_
  refine AW.reg ?_
  iterate 2 refine AOL.s1 (h := ?_)
  refine AOL.callF rfl (isF rfl rfl rfl) (by kernel_rfl) (h := ?_)
  iterate 2 refine AOL.s1 (h := ?_)
  refine AOL.callF rfl (isF rfl rfl rfl) (by kernel_rfl) (h := ?_)
  iterate 2 refine AOL.s1 (h := ?_)
  refine AOL.callF rfl (isF rfl rfl rfl) (by kernel_rfl) (h := ?_)
  iterate 3 refine AOL.s1 (h := ?_)
  refine AOL.nil ?_
  refine AW.kq [0, 1, 2, 3] (h := ?_)
  repeat refine AW.seq ?_
  refine AW.reg ?_
  iterate 1 refine AOL.s1 (h := ?_)
  refine AOL.callD rfl (gadget_one_c) (by kernel_rfl) rfl rfl (h := ?_)
  iterate 1 refine AOL.s1 (h := ?_)
  refine AOL.callD rfl (gadget_one_c) (by kernel_rfl) rfl rfl (h := ?_)
  iterate 1 refine AOL.s1 (h := ?_)
  refine AOL.fz 1400 rfl (fun h => by cases h) (h := ?_)
  iterate 1 refine AOL.s1 (h := ?_)
  refine AOL.nil ?_
  refine AW.kq [0, 1, 3, 9] (h := ?_)
  repeat refine AW.seq ?_
  refine AW.drw 14 [] (by kernel_rfl) (h := ?_)
  iterate 8 refine ADL.dm 1 (h := ?_)
  refine ADL.call rfl (cS) (by kernel_rfl) rfl rfl (h := ?_)
  iterate 4 refine ADL.dm 1 (h := ?_)
  refine ADL.callF rfl (valC hS hv hW rfl) (by kernel_rfl) (h := ?_)
  refine ADL.done hmix rfl rfl (hT := ?_)
  refine AOL.callD rfl (cM) (by kernel_rfl) rfl rfl (h := ?_)
  iterate 1 refine AOL.s1 (h := ?_)
  refine AOL.nil ?_
  refine AW.kq [0, 1, 3, 9, 10] (h := ?_)
  repeat refine AW.seq ?_
  refine AW.reg ?_
  iterate 9 refine AOL.s1 (h := ?_)
  refine AOL.callD rfl (cA) (by kernel_rfl) rfl rfl (h := ?_)
  refine AOL.callM (l := 0) (b := 1000) (cF) rfl (by kernel_rfl) rfl rfl rfl rfl rfl (hst := by simp only [St.drops, St.drop, mapT, mapH, kill, kills, del, St.put, ins, reduceIte, Nat.reduceAdd, Nat.reduceLT, Nat.reduceEqDiff, Bool.false_eq_true]; exact rfl) ?_
  iterate 1 refine AOL.s1 (h := ?_)
  refine AOL.nil ?_
  refine AW.kq [0, 1, 3, 9, 11] (h := ?_)
  repeat refine AW.seq ?_
  refine AW.reg ?_
  iterate 2 refine AOL.s1 (h := ?_)
  refine AOL.callD rfl (gadget_just_c) (by kernel_rfl) rfl rfl (h := ?_)
  iterate 2 refine AOL.s1 (h := ?_)
  refine AOL.callD rfl (gadget_one_c) (by kernel_rfl) rfl rfl (h := ?_)
  iterate 1 refine AOL.s1 (h := ?_)
  refine AOL.callD rfl (gadget_one_c) (by kernel_rfl) rfl rfl (h := ?_)
  iterate 1 refine AOL.s1 (h := ?_)
  refine AOL.fz 1960 rfl (fun h => by cases h) (h := ?_)
  refine AOL.callM (l := 0) (b := 1000) (cR) rfl (by kernel_rfl) rfl rfl rfl rfl rfl (hst := by simp only [St.drops, St.drop, mapT, mapH, kill, kills, del, St.put, ins, reduceIte, Nat.reduceAdd, Nat.reduceLT, Nat.reduceEqDiff, Bool.false_eq_true]; exact rfl) ?_
  refine AOL.nil ?_
  refine AW.kq [11] (h := ?_)
  repeat refine AW.seq ?_
  refine AW.reg ?_
  iterate 2 refine AOL.s1 (h := ?_)
  refine AOL.nil ?_
  refine AW.kq [8] (h := ?_)
  repeat refine AW.seq ?_
  refine AW.ret ?_
  refine ⟨_, mkOut (rowM (freshM m ((valM m.vals b + valM m.vals c * valF m.vals 0 (sumT (two1 (isMk m a) nb 288230376287764480)) % 288230376287764481) % 288230376287764481)) (one1 nc) (two1 (isMk m a) nb 288230376287764480) (two1 m.vals.length nb 288230376287764480)), rfl, ?_, ?_⟩
  · exact fun p hp => hp
  · exact Tells.self
end Go.Proofs.YtngphcdhdllnnaaGreat.E.M
end
section
/- gadget: hashes, bits: contracts over E. -/
set_option linter.unusedVariables false
set_option linter.unusedSimpArgs false
set_option maxRecDepth 10000
open Go Go.Proofs.YtngphcdhdllnnaaGreat.E Go.Proofs
namespace Go.Proofs.YtngphcdhdllnnaaGreat.E.M
theorem ipow7_w (k : Nat) (hk : k < 3) : w64 (ipow 288230376287764481 7 (k + 1)) := by
  rw [ipow_eq (by decide) (by decide) (by constructor <;> omega)]; exact w64_r _
abbrev three1 (v : Int) (a ka w kw : Int) : List Tm := [⟨v, 1⟩, ⟨a, ka⟩, ⟨w, kw⟩]
theorem tok_3 {v a ka w kw : Int} (h1 : w64 ka) (h2 : w64 kw) : tok (three1 v a ka w kw) := by
  refine ⟨by simp, fun t ht => ?_⟩
  simp only [List.mem_cons, List.not_mem_nil, or_false] at ht
  rcases ht with rfl | rfl | rfl
  · exact w64_1
  · exact h1
  · exact h2
abbrev twoL (a x : Int) (j : Nat) : List Tm := three1 x a 1 0 (ipow 288230376287764481 7 (j + 1))
def twoS (a : Int) : Nat → Nat → Mk → Int → Mk × Int
  | 0, _, m, x => (m, x)
  | n + 1, j, m, x => twoS a n (j + 1) (prodM (prodM m (twoL a x j) (twoL a x j)) (one1 m.vals.length) (twoL a x j)) (prodM m (twoL a x j) (twoL a x j)).vals.length
abbrev twoE (m : Mk) (a b : Int) : Mk × Int := twoS (isM m.vals a) 3 0 m (isM m.vals b)
def twoM (m : Mk) (a b : Int) : Mk := linM (twoE m a b).1 (three1 (twoE m a b).2 (isM m.vals a) 2 (isM m.vals b) 1)
def twoR (m : Mk) (a b : Int) : Int := ((twoE m a b).1.vals.length : Int)
theorem twoS_ok {k : Nat} (a : Int) : ∀ (n j : Nat) (m : Mk) (x : Int), Mok (4 * n + k) m → Mok k (twoS a n j m x).1
  | 0, _, _, _, h => by simpa [twoS] using h
  | n + 1, j, m, x, h => twoS_ok a n (j + 1) _ _ (Mok.prod (Mok.prod (Mok.mono h (by omega)) _ _) _ _)
theorem twoM_ok {k : Nat} {m : Mk} (h : Mok (14 + k) m) (a b : Int) : Mok k (twoM m a b) := Mok.lin (twoS_ok _ 3 0 m _ (Mok.mono h (by omega))) _
set_option maxHeartbeats 4000000 in
theorem gadget_Maker_Two_c {m : Mk} {a b : Int} (hm : Mok 14 m) : Fn Tryz.prog 36 [.ptr 0 0, i a, i b] [(0, mkB m 1 2), (1, rwB m.rows), (2, vlB m.vals)] (Tells (i (twoR m a b)) (mkOut (twoM m a b))) := by
  refine Fn.enter Tryz.func36 Tryz.ntmps36 rfl (h := ?_)
  have tf := tfm
  have ot_ : (false || true) = true := rfl
  have tfr := tfr
  refine AW.mv 1 1001 (h := ?_)
  refine AW.mv 2 1002 (h := ?_)
  repeat refine AW.seq ?_
  refine AW.reg ?_
  iterate 1 refine AOL.s1 (h := ?_)
  refine AOL.nil ?_
  refine AW.kq [0, 1, 2] (h := ?_)
  repeat refine AW.seq ?_
  refine AW.reg ?_
  iterate 2 refine AOL.s1 (h := ?_)
  refine AOL.callF rfl (isF rfl rfl rfl) (by kernel_rfl) (h := ?_)
  iterate 2 refine AOL.s1 (h := ?_)
  refine AOL.callF rfl (isF rfl rfl rfl) (by kernel_rfl) (h := ?_)
  iterate 2 refine AOL.s1 (h := ?_)
  refine AOL.nil ?_
  refine AW.kq [0, 1, 2] (h := ?_)
  repeat refine AW.seq ?_
  refine AW.reg ?_
  iterate 2 refine AOL.s1 (h := ?_)
  refine AOL.nil ?_
  refine AW.kq [0, 1, 2, 7] (h := ?_)
  repeat refine AW.seq ?_
  refine AW.reg ?_
  iterate 1 refine AOL.s1 (h := ?_)
  refine AOL.nil ?_
  refine AW.kq [0, 1, 2, 7, 18] (h := ?_)
  repeat refine AW.seq ?_
  refine AW.block ?_
  repeat refine AW.seq ?_
  refine AW.loopK [0, 1, 2, 7, 18] (fun n s => ∃ (j : Nat) (q : Mk) (x : Int), s = ⟨50, [(0, .ptr 0 0), (1, i (isM m.vals a)), (2, i (isM m.vals b)), (7, i x), (18, i j)], [(0, mkB q 1001 1002), (1001, rwB q.rows), (1002, vlB q.vals)]⟩ ∧ j + n = 3 ∧ Mok (4 * n + 2) q ∧ id (twoS (isM m.vals a) n j q x = twoE m a b)) (3) ?_ ?_
  · exact ⟨0, m, _, rfl, rfl, hm, rfl⟩
  rintro n s ⟨j, q, x, rfl, hj, hq, ht⟩
  repeat refine AW.seq ?_
  refine AW.reg ?_
  iterate 1 refine AOL.s1 (h := ?_)
  refine AOL.nil ?_
  refine AW.kq [0, 1, 2, 7, 18, 19] (h := ?_)
  repeat refine AW.seq ?_
  refine AW.cond rfl (fun c_ => ?_) (fun c_ => ?_)
  · have j1 : j < 3 := by simp at c_; omega
    obtain ⟨n, rfl⟩ : ∃ m, n = m + 1 := ⟨n - 1, by omega⟩
    have k2 : IntKind.i64.wrap ((j : Int) + 1) = ((j + 1 : Nat) : Int) := by rw [wrapI_o (by omega) (by omega)]; omega
    have k3 : IntKind.u64.wrap (j : Int) = (j : Int) := by rw [wu64]; omega
    have k4 : IntKind.u64.wrap ((j : Int) + 1) = (j : Int) + 1 := by rw [wu64]; omega
    have cP := modular_Pow_c (e := (j : Int) + 1) hR (show w64 7 by decide) (by constructor <;> omega)
    have ti := tok_3 (v := x) (a := isM m.vals a) (w := 0) w64_1 (ipow7_w j j1)
    have c1 := gadget_Maker_product_c (Mok.mono hq (by omega)) ti ti
    have hq1 : Mok (4 * n + 4) (prodM q (twoL (isM m.vals a) x j) (twoL (isM m.vals a) x j)) := Mok.prod (Mok.mono hq (by omega)) _ _
    have c2 := gadget_Maker_product_c (Mok.mono hq1 (by omega)) (tok_1 q.vals.length) ti
    refine AW.skip ?_
    repeat refine AW.seq ?_
    refine AW.block ?_
    repeat refine AW.seq ?_
    refine AW.reg ?_
    iterate 2 refine AOL.s1 (h := ?_)
    refine AOL.nil ?_
    refine AW.kq [0, 1, 2, 7, 8, 18] (h := ?_)
    repeat refine AW.seq ?_
    refine AW.reg ?_
    iterate 1 refine AOL.s1 (h := ?_)
    refine AOL.callD rfl (gadget_one_c) (by kernel_rfl) rfl rfl (h := ?_)
    iterate 1 refine AOL.s1 (h := ?_)
    refine AOL.callD rfl (gadget_one_c) (by kernel_rfl) rfl rfl (h := ?_)
    iterate 3 refine AOL.s1 (h := ?_)
    refine AOL.callD rfl (cP) (by kernel_rfl) rfl rfl (h := ?_)
    refine AOL.callD rfl (gadget_one_c) (by kernel_rfl) rfl rfl (h := ?_)
    iterate 1 refine AOL.s1 (h := ?_)
    refine AOL.fz 1480 rfl (fun h => by cases h) (h := ?_)
    iterate 1 refine AOL.s1 (h := ?_)
    refine AOL.nil ?_
    refine AW.kq [0, 1, 2, 9, 18] (h := ?_)
    repeat refine AW.seq ?_
    refine AW.reg ?_
    iterate 3 refine AOL.s1 (h := ?_)
    refine AOL.callM (l := 0) (b := 1000) (c1) rfl (by kernel_rfl) rfl rfl rfl rfl rfl (hst := by simp only [St.drops, St.drop, mapT, mapH, kill, kills, del, St.put, ins, reduceIte, Nat.reduceAdd, Nat.reduceLT, Nat.reduceEqDiff, Bool.false_eq_true]; exact rfl) ?_
    iterate 1 refine AOL.s1 (h := ?_)
    refine AOL.nil ?_
    refine AW.kq [0, 1, 2, 9, 10, 18] (h := ?_)
    repeat refine AW.seq ?_
    refine AW.reg ?_
    iterate 2 refine AOL.s1 (h := ?_)
    refine AOL.callD rfl (gadget_just_c) (by kernel_rfl) rfl rfl (h := ?_)
    iterate 1 refine AOL.s1 (h := ?_)
    refine AOL.callM (l := 0) (b := 1000) (c2) rfl (by kernel_rfl) rfl rfl rfl rfl rfl (hst := by simp only [St.drops, St.drop, mapT, mapH, kill, kills, del, St.put, ins, reduceIte, Nat.reduceAdd, Nat.reduceLT, Nat.reduceEqDiff, Bool.false_eq_true]; exact rfl) ?_
    iterate 1 refine AOL.s1 (h := ?_)
    refine AOL.nil ?_
    repeat refine AW.seq ?_
    refine AW.reg ?_
    iterate 2 refine AOL.s1 (h := ?_)
    refine AOL.nil ?_
    exact ⟨n, by omega, j + 1, _, _, rfl, by omega, Mok.prod (Mok.mono hq1 (by omega)) _ _, ht⟩
  · have n0 : n = 0 := by simp at c_; omega
    subst n0
    have e1 : twoM m a b = linM q (three1 x (isM m.vals a) 2 (isM m.vals b) 1) := by unfold twoM; rw [← show _ = _ from ht]; rfl
    have e2 : twoR m a b = q.vals.length := by unfold twoR; rw [← show _ = _ from ht]; rfl
    have c3 := gadget_Maker_Linear_c (m := q) (L := three1 x (isM m.vals a) 2 (isM m.vals b) 1) (Mok.mono hq (by omega)) (tok_3 (by decide) w64_1)
    rw [e1, e2]
    clear ht e1 e2
    repeat refine AW.seq ?_
    refine AW.exit ?_
    repeat (first | refine Kseq.ex ?_ | refine Kloop.ex ?_ | refine Kblock.miss (by decide) ?_)
    refine Kblock.hit ?_
    refine AW.kq [0, 1, 2, 7] (h := ?_)
    repeat refine AW.seq ?_
    refine AW.reg ?_
    iterate 2 refine AOL.s1 (h := ?_)
    refine AOL.callD rfl (gadget_one_c) (by kernel_rfl) rfl rfl (h := ?_)
    iterate 1 refine AOL.s1 (h := ?_)
    refine AOL.callD rfl (gadget_one_c) (by kernel_rfl) rfl rfl (h := ?_)
    iterate 1 refine AOL.s1 (h := ?_)
    refine AOL.callD rfl (gadget_one_c) (by kernel_rfl) rfl rfl (h := ?_)
    iterate 1 refine AOL.s1 (h := ?_)
    refine AOL.fz 1768 rfl (fun h => by cases h) (h := ?_)
    refine AOL.callM (l := 0) (b := 1000) (c3) rfl (by kernel_rfl) rfl rfl rfl rfl rfl (hst := by simp only [St.drops, St.drop, mapT, mapH, kill, kills, del, St.put, ins, reduceIte, Nat.reduceAdd, Nat.reduceLT, Nat.reduceEqDiff, Bool.false_eq_true]; exact rfl) ?_
    iterate 1 refine AOL.s1 (h := ?_)
    refine AOL.nil ?_
    refine AW.kq [6] (h := ?_)
    repeat refine AW.seq ?_
    refine AW.ret ?_
    refine ⟨_, mkOut (linM q (three1 x (isM m.vals a) 2 (isM m.vals b) 1)), rfl, ?_, ?_⟩
    · exact fun p hp => hp
    · exact Tells.self
abbrev i1 (n : Int) : List AV := [i n]
theorem i1_len (n : Int) : (i1 n).length = 1 := rfl
abbrev il (V : List Int) : AV := slF i1 V
def manS : List Int → Mk → Int → Mk × Int
  | [], m, h => (m, h)
  | v :: V, m, h => manS V (twoM m h v) (twoR m h v)
abbrev manE (m : Mk) (V : List Int) : Mk × Int := manS V (linM m [⟨0, V.length⟩]) m.vals.length
theorem manS_ok {k : Nat} : ∀ (V : List Int) (m : Mk) (h : Int), Mok (14 * V.length + k) m → Mok k (manS V m h).1
  | [], m, h, hm => by simpa [manS] using hm
  | v :: V, m, h, hm => manS_ok V _ _ (twoM_ok (Mok.mono hm (by simp only [List.length_cons]; omega)) _ _)
theorem manE_ok {k : Nat} {m : Mk} {V : List Int} (h : Mok (14 * V.length + 2 + k) m) : Mok k (manE m V).1 := manS_ok V _ _ (Mok.lin (Mok.mono h (by omega)) _)
set_option maxHeartbeats 4000000 in
theorem gadget_Maker_Many_c {m : Mk} {V : List Int} (hm : Mok (14 * V.length + 2) m) : Fn Tryz.prog 15 [.ptr 0 0, il V] [(0, mkB m 1 2), (1, rwB m.rows), (2, vlB m.vals)] (Tells (i (manE m V).2) (mkOut (manE m V).1)) := by
  refine Fn.enter Tryz.func15 Tryz.ntmps15 rfl (h := ?_)
  have tf := tfm
  have ot_ : (false || true) = true := rfl
  have tfr := tfr
  have lV : V.length < 1000000 := by have := hm.1; omega
  have lu : IntKind.u64.wrap (V.length : Int) = V.length := by rw [wu64]; omega
  have c0 := gadget_Maker_Linear_c (m := m) (L := [⟨0, V.length⟩]) (Mok.mono hm (by omega)) ⟨by simp, fun t ht => by simp only [List.mem_singleton] at ht; subst ht; constructor <;> show _ <;> simp only <;> omega⟩
  refine AW.mv 1 1001 (h := ?_)
  refine AW.mv 2 1002 (h := ?_)
  repeat refine AW.seq ?_
  refine AW.reg ?_
  iterate 1 refine AOL.s1 (h := ?_)
  refine AOL.nil ?_
  refine AW.kq [0, 1] (h := ?_)
  repeat refine AW.seq ?_
  refine AW.reg ?_
  iterate 4 refine AOL.s1 (h := ?_)
  refine AOL.callD rfl (gadget_one_c) (by kernel_rfl) rfl rfl (h := ?_)
  iterate 1 refine AOL.s1 (h := ?_)
  refine AOL.fz 1208 rfl (fun h => by cases h) (h := ?_)
  refine AOL.callM (l := 0) (b := 1000) (c0) rfl (by kernel_rfl) rfl rfl rfl rfl rfl (hst := by simp only [St.drops, St.drop, mapT, mapH, kill, kills, del, St.put, ins, reduceIte, Nat.reduceAdd, Nat.reduceLT, Nat.reduceEqDiff, Bool.false_eq_true]; exact rfl) ?_
  iterate 1 refine AOL.s1 (h := ?_)
  refine AOL.nil ?_
  refine AW.kq [0, 1, 5] (h := ?_)
  repeat refine AW.seq ?_
  refine AW.reg ?_
  iterate 3 refine AOL.s1 (h := ?_)
  refine AOL.nil ?_
  refine AW.kq [0, 5, 15, 16, 17] (h := ?_)
  repeat refine AW.seq ?_
  refine AW.block ?_
  repeat refine AW.seq ?_
  refine AW.loopK [0, 5, 15, 16, 17] (fun n s => ∃ (k : Nat) (q : Mk) (h : Int) (r : List Int), s = ⟨27, [(0, .ptr 0 0), (5, i h), (15, il V), (16, i V.length), (17, i k)], [(0, mkB q 1001 1002), (1001, rwB q.rows), (1002, vlB q.vals)]⟩ ∧ V.drop k = r ∧ k ≤ V.length ∧ n = r.length ∧ Mok (14 * r.length) q ∧ id (manS r q h = manE m V)) (V.length) ?_ ?_
  · exact ⟨0, _, _, V, rfl, rfl, Nat.zero_le _, rfl, Mok.lin (Mok.mono hm (by omega)) _, rfl⟩
  rintro n s ⟨k, q, h, r, rfl, hr, hkl, rfl, hq, ht⟩
  repeat refine AW.seq ?_
  refine AW.reg ?_
  iterate 1 refine AOL.s1 (h := ?_)
  refine AOL.nil ?_
  refine AW.kq [0, 5, 15, 16, 17, 18] (h := ?_)
  repeat refine AW.seq ?_
  refine AW.cond rfl (fun c_ => ?_) (fun c_ => ?_)
  · cases r with
    | nil => have := dnilq hr hkl; simp at c_; omega
    | cons t r =>
    obtain ⟨hlt, hr', ht_⟩ := dconsq hr
    have hd : (fm i1 V).drop k = i t :: fm i1 r := by
      have := fm_drop i1_len hr
      rwa [Nat.mul_one] at this
    have k0 : (0:Int) ≤ k := by omega
    have k1 : (k:Int) < V.length := by omega
    have hw := incq hlt (show V.length < 1000000000 by omega)
    have c1 := gadget_Maker_Two_c (m := q) (a := h) (b := t) (Mok.mono hq (by simp only [List.length_cons]; omega))
    clear hr ht_
    refine AW.skip ?_
    repeat refine AW.seq ?_
    refine AW.block ?_
    repeat refine AW.seq ?_
    refine AW.reg ?_
    iterate 3 refine AOL.s1 (h := ?_)
    refine AOL.nil ?_
    refine AW.kq [0, 5, 7, 15, 16, 17] (h := ?_)
    repeat refine AW.seq ?_
    refine AW.reg ?_
    iterate 3 refine AOL.s1 (h := ?_)
    refine AOL.callM (l := 0) (b := 1000) (c1) rfl (by kernel_rfl) rfl rfl rfl rfl rfl (hst := by simp only [St.drops, St.drop, mapT, mapH, kill, kills, del, St.put, ins, reduceIte, Nat.reduceAdd, Nat.reduceLT, Nat.reduceEqDiff, Bool.false_eq_true]; exact rfl) ?_
    iterate 1 refine AOL.s1 (h := ?_)
    refine AOL.nil ?_
    repeat refine AW.seq ?_
    refine AW.reg ?_
    iterate 2 refine AOL.s1 (h := ?_)
    refine AOL.nil ?_
    exact ⟨r.length, by simp, k + 1, _, _, r, rfl, hr', hlt, rfl, twoM_ok (Mok.mono hq (by simp only [List.length_cons]; omega)) _ _, ht⟩
  · have : r = [] := by
      cases r with
      | nil => rfl
      | cons t r => have := (dconsq hr).1; simp at c_; omega
    subst this
    have e1 : manE m V = (q, h) := by rw [← show _ = _ from ht]; rfl
    rw [e1]
    clear ht hr e1
    repeat refine AW.seq ?_
    refine AW.exit ?_
    repeat (first | refine Kseq.ex ?_ | refine Kloop.ex ?_ | refine Kblock.miss (by decide) ?_)
    refine Kblock.hit ?_
    refine AW.kq [5] (h := ?_)
    repeat refine AW.seq ?_
    refine AW.reg ?_
    iterate 2 refine AOL.s1 (h := ?_)
    refine AOL.nil ?_
    refine AW.kq [4] (h := ?_)
    repeat refine AW.seq ?_
    refine AW.ret ?_
    refine ⟨_, mkOut q, rfl, ?_, ?_⟩
    · exact fun p hp => hp
    · exact Tells.self
def bitV (V : List Int) (a : Int) (j : Nat) : Int := valM V a / 2 ^ j % 2
def bitS (a : Int) : Nat → Nat → Mk → List Int → List Tm → Mk × List Int × List Tm
  | 0, _, m, o, s => (m, o, s)
  | n + 1, j, m, o, s => bitS a n (j + 1) (rowM (freshM m (bitV m.vals a j)) (one1 m.vals.length) (two1 m.vals.length 0 288230376287764480) []) (o ++ [(m.vals.length : Int)]) (s ++ [⟨m.vals.length, 2 ^ j⟩])
def bitN (n : Int) : Nat := if n < 0 ∨ n > 58 then 0 else n.toNat
theorem bitN_le (n : Int) : bitN n ≤ 58 := by unfold bitN; split <;> omega
abbrev bitE (m : Mk) (a n : Int) : Mk × List Int × List Tm := bitS (isM m.vals a) (bitN n) 0 m [] []
def bitM (m : Mk) (a n : Int) : Mk := rowM (bitE m a n).1 (bitE m a n).2.2 (one1 0) (one1 (isM m.vals a))
theorem bitS_ok {k : Nat} (a : Int) : ∀ (n j : Nat) (m : Mk) (o : List Int) (s : List Tm), Mok (2 * n + k) m → Mok k (bitS a n j m o s).1
  | 0, _, _, _, _, h => by simpa [bitS] using h
  | n + 1, j, m, o, s, h => bitS_ok a n (j + 1) _ _ _ ((Mok.fresh (Mok.mono h (by omega)) _).row _ _ _)
theorem bitM_ok {k : Nat} {m : Mk} (h : Mok (117 + k) m) (a n : Int) : Mok k (bitM m a n) := Mok.row (bitS_ok _ _ _ _ _ _ (Mok.mono h (by have := bitN_le n; omega))) _ _ _
theorem shl1 {j : Nat} (h : j < 58) : IntKind.u64.wrap (1 * 2 ^ min j IntKind.u64.bits) = 2 ^ j := by
  have e : min j IntKind.u64.bits = j := Nat.min_eq_left (by show j ≤ 64; omega)
  have h1 : (2:Int) ^ j < 2 ^ 58 := by
    have := Nat.pow_lt_pow_right (a := 2) (by decide) h
    exact_mod_cast this
  have h2 : (0:Int) < 2 ^ j := Int.pow_pos (by decide)
  rw [e, wu64, Int.one_mul, Int.emod_eq_of_lt (by omega) (by omega)]
theorem fmi_snoc (V : List Int) (x : Int) : fm i1 (V ++ [x]) = fm i1 V ++ [i x] := by rw [fm_app]; rfl
theorem fmt_snoc (V : List Tm) (x : Tm) : fm tm (V ++ [x]) = fm tm V ++ [i x.v, u x.k] := by rw [fm_app]; simp only [fm, List.append_nil]
set_option maxHeartbeats 8000000 in
theorem gadget_Maker_Bits_c {m : Mk} {a n : Int} (hm : Mok 117 m) : Fn Tryz.prog 14 [.ptr 0 0, i a, i n] [(0, mkB m 1 2), (1, rwB m.rows), (2, vlB m.vals)] (Tells (il (bitE m a n).2.1) (mkOut (bitM m a n))) := by
  refine Fn.enter Tryz.func14 Tryz.ntmps14 rfl (h := ?_)
  have tf := tfm
  have ot_ : (false || true) = true := rfl
  have tfr := tfr
  have hN := bitN_le n
  obtain ⟨j0, jl⟩ := isM_in hm.2.2.2 a
  obtain ⟨na, hna⟩ : ∃ n : Nat, isM m.vals a = n := ⟨(isM m.vals a).toNat, by omega⟩
  have e0 : bitM m a n = rowM (bitS na (bitN n) 0 m [] []).1 (bitS na (bitN n) 0 m [] []).2.2 (one1 0) (one1 na) := by unfold bitM bitE; rw [hna]
  have e00 : (bitE m a n).2.1 = (bitS na (bitN n) 0 m [] []).2.1 := by rw [bitE, hna]
  rw [e0, e00]
  replace e0 : id (_ = _) := e0
  replace e00 : id (_ = _) := e00
  rw [hna] at jl
  refine AW.mv 1 1001 (h := ?_)
  refine AW.mv 2 1002 (h := ?_)
  repeat refine AW.seq ?_
  refine AW.reg ?_
  iterate 1 refine AOL.s1 (h := ?_)
  refine AOL.nil ?_
  refine AW.kq [0, 1, 2] (h := ?_)
  repeat refine AW.seq ?_
  refine AW.reg ?_
  iterate 2 refine AOL.s1 (h := ?_)
  refine AOL.callF rfl (isF rfl rfl rfl) (by kernel_rfl) (h := ?_)
  iterate 1 refine AOL.s1 (h := ?_)
  refine AOL.nil ?_
  refine AW.kq [0, 1, 2] (h := ?_)
  repeat refine AW.seq ?_
  refine AW.reg ?_
  iterate 3 refine AOL.s1 (h := ?_)
  refine AOL.kq [0, 1, 2, 16] (h := ?_)
  refine AOL.or 16 19 (os' := ?_) (x := ?_) (h1 := ?_) (h0 := ?_) (h := ?_)
  rotate_left 2
  iterate 2
    · intro hb_ K' hK; (iterate 3 refine AOL.s1 (h := ?_)); refine AOL.kq [0, 1, 2, 19] (h := ?_); exact hK
  refine AOL.nil ?_
  refine AW.kq [0, 1, 2, 19] (h := ?_)
  repeat refine AW.seq ?_
  refine AW.midK [0, 1, 2] (fun t => t = ⟨63, [(0, .ptr 0 0), (1, i na), (2, i (bitN n))], [(0, mkB m 1001 1002), (1001, rwB m.rows), (1002, vlB m.vals)]⟩) ?_ ?_
  · refine AW.cond rfl (fun c_ => ?_) (fun c_ => ?_)
    · have hb : bitN n = 0 := if_pos (by simpa using c_)
      rw [hb]
      repeat refine AW.seq ?_
      refine AW.reg ?_
      iterate 1 refine AOL.s1 (h := ?_)
      refine AOL.nil ?_
      exact rfl
    · have hb : (bitN n : Int) = n := by
        have h : bitN n = n.toNat := if_neg (by simp at c_; omega)
        rw [h]; simp at c_; omega
      rw [hb]
      refine AW.skip ?_
      exact rfl
  rintro t rfl
  repeat refine AW.seq ?_
  refine AW.reg ?_
  iterate 1 refine AOL.s1 (h := ?_)
  refine AOL.nil ?_
  refine AW.kq [0, 1, 2, 7] (h := ?_)
  repeat refine AW.seq ?_
  refine AW.reg ?_
  iterate 1 refine AOL.s1 (h := ?_)
  refine AOL.nil ?_
  refine AW.kq [0, 1, 2, 7, 8] (h := ?_)
  repeat refine AW.seq ?_
  refine AW.reg ?_
  iterate 2 refine AOL.s1 (h := ?_)
  refine AOL.nil ?_
  refine AW.kq [0, 1, 7, 8, 20, 21] (h := ?_)
  repeat refine AW.seq ?_
  refine AW.block ?_
  repeat refine AW.seq ?_
  refine AW.born 7 9001 3 1 (.inl rfl) (h := ?_)
  refine AW.born 8 9002 80 2 (.inl rfl) (h := ?_)
  refine AW.loopK [0, 1, 7, 8, 20, 21] (fun n' s => ∃ (j : Nat) (q : Mk) (o : List Int) (l : List Tm), s = ⟨63, [(0, .ptr 0 0), (1, i na), (7, .ref 9001 0 o.length 1), (8, .ref 9002 0 l.length 2), (20, i (bitN n)), (21, i j)], [(0, mkB q 1001 1002), (1001, rwB q.rows), (1002, vlB q.vals), (9001, ⟨3, false, fm i1 o⟩), (9002, ⟨80, false, fm tm l⟩)]⟩ ∧ j + n' = bitN n ∧ Mok (2 * n' + 1) q ∧ m.vals.length ≤ q.vals.length ∧ o.length = j ∧ l.length = j ∧ wT l ∧ id (bitS na n' j q o l = bitS na (bitN n) 0 m [] []) ∧ id (n' = n')) (bitN n) ?_ ?_
  · exact ⟨0, m, [], [], rfl, by omega, Mok.mono hm (by omega), Nat.le_refl _, rfl, rfl, (fun t ht => by cases ht), rfl, rfl⟩
  rintro n' s ⟨j, q, o, l, rfl, hj, hq, hqm, ho, hl, hlw, ht, _⟩
  repeat refine AW.seq ?_
  refine AW.reg ?_
  iterate 1 refine AOL.s1 (h := ?_)
  refine AOL.nil ?_
  refine AW.kq [0, 1, 7, 8, 20, 21, 22] (h := ?_)
  repeat refine AW.seq ?_
  refine AW.cond rfl (fun c_ => ?_) (fun c_ => ?_)
  · have j1 : j < bitN n := by simp at c_; omega
    obtain ⟨n', rfl⟩ : ∃ m, n' = m + 1 := ⟨n' - 1, by omega⟩
    have k2 : IntKind.i64.wrap ((j : Int) + 1) = ((j + 1 : Nat) : Int) := by rw [wrapI_o (by omega) (by omega)]; omega
    have hqa : isM q.vals na = na := if_neg (by omega)
    obtain ⟨nq, hq1, hq2, hq3, hq4⟩ := valM_at hq.2.2.1 hq.2.2.2 na
    obtain rfl : nq = na := by have := hqa.symm.trans hq1; omega
    have q0 : (0:Int) ≤ nq := by omega
    have hsh := shr_b hq4 (show j ≤ 64 by omega)
    have hand := and_one hsh.2.1 hsh.2.2
    have hs1 := hsh.1
    have hs2 := shl1 (show j < 58 by omega)
    have jn : ¬ (j:Int) < 0 := by omega
    have cF := gadget_Maker_fresh_c (m := q) (x := bitV q.vals nq j) (Mok.mono hq (by omega)) (by unfold bitV; constructor <;> omega)
    have cR := row_nil (m := freshM q (bitV q.vals nq j)) (a := one1 q.vals.length) (b := two1 q.vals.length 0 288230376287764480) (Mok.fresh (Mok.mono hq (by omega)) _) (tok_1 _) (tok_2 w64_m1)
    have hbv : valM q.vals nq / 2 ^ j % 2 = bitV q.vals nq j := rfl
    have lo : (fm i1 o).length = j := by rw [fm_len i1_len, Nat.mul_one, ho]
    have ll : (fm tm l).length = j * 2 := by rw [fm_len tm_len, hl]
    have o1 : (j + 1) * 8 ≤ 140737488355328 := by omega
    have o3 : j ≤ 4611686018427387903 := by omega
    have o2 : j + 1 ≤ 4611686018427387904 := by omega
    have l1 : (j + 1) * 16 ≤ 140737488355328 := by omega
    have ht' : id (bitS nq n' (j + 1) (rowM (freshM q (bitV q.vals nq j)) (one1 q.vals.length) (two1 q.vals.length 0 288230376287764480) []) (o ++ [(q.vals.length : Int)]) (l ++ [⟨q.vals.length, 2 ^ j⟩]) = bitS nq (bitN n) 0 m [] []) := ht
    have hq' : Mok (2 * n' + 1) (rowM (freshM q (bitV q.vals nq j)) (one1 q.vals.length) (two1 q.vals.length 0 288230376287764480) []) := (Mok.fresh (Mok.mono hq (by omega)) _).row _ _ _
    clear ht hqa hq1
    refine AW.skip ?_
    repeat refine AW.seq ?_
    refine AW.block ?_
    repeat refine AW.seq ?_
    refine AW.reg ?_
    iterate 2 refine AOL.s1 (h := ?_)
    refine AOL.nil ?_
    refine AW.kq [0, 1, 7, 8, 9, 20, 21] (h := ?_)
    repeat refine AW.seq ?_
    refine AW.reg ?_
    iterate 11 refine AOL.s1 (h := ?_)
    refine AOL.callM (l := 0) (b := 1000) (cF) rfl (by kernel_rfl) rfl rfl rfl rfl rfl (hst := by simp only [St.drops, St.drop, mapT, mapH, kill, kills, del, St.put, ins, reduceIte, Nat.reduceAdd, Nat.reduceLT, Nat.reduceEqDiff, Bool.false_eq_true]; exact rfl) ?_
    iterate 1 refine AOL.s1 (h := ?_)
    refine AOL.nil ?_
    refine AW.kq [0, 1, 7, 8, 9, 10, 20, 21] (h := ?_)
    repeat refine AW.seq ?_
    refine AW.reg ?_
    iterate 2 refine AOL.s1 (h := ?_)
    refine AOL.callD rfl (gadget_just_c) (by kernel_rfl) rfl rfl (h := ?_)
    iterate 1 refine AOL.s1 (h := ?_)
    refine AOL.callD rfl (gadget_one_c) (by kernel_rfl) rfl rfl (h := ?_)
    refine AOL.callD rfl (gadget_one_c) (by kernel_rfl) rfl rfl (h := ?_)
    iterate 1 refine AOL.s1 (h := ?_)
    refine AOL.fz 1672 rfl (fun h => by cases h) (h := ?_)
    refine AOL.callM (l := 0) (b := 1000) (cR) rfl (by kernel_rfl) rfl rfl rfl rfl rfl (hst := by simp only [St.drops, St.drop, mapT, mapH, kill, kills, del, St.put, ins, reduceIte, Nat.reduceAdd, Nat.reduceLT, Nat.reduceEqDiff, Bool.false_eq_true]; exact rfl) ?_
    refine AOL.nil ?_
    refine AW.kq [0, 1, 7, 8, 9, 10, 20, 21] (h := ?_)
    repeat refine AW.seq ?_
    refine AW.da 11 (by kernel_rfl) (h := ?_)
    iterate 3 refine ADP.d1 (h := ?_)
    refine ADP.app 9001 (h := ?_)
    iterate 4 refine ADP.d1 (h := ?_)
    refine ADP.call rfl (gadget_one_c) (by kernel_rfl) rfl rfl (h := ?_)
    iterate 1 refine ADP.d1 (h := ?_)
    refine ADP.app 9002 (h := ?_)
    refine ADP.done2 hmix (by kernel_rfl) (by kernel_rfl) rfl (hT := ?_)
    iterate 2 refine AOL.s1 (h := ?_)
    refine AOL.nil ?_
    repeat refine AW.seq ?_
    skip
    skip
    refine AW.reg ?_
    iterate 2 refine AOL.s1 (h := ?_)
    refine AOL.nil ?_
    refine ⟨n', by omega, j + 1, rowM (freshM q (bitV q.vals nq j)) (one1 q.vals.length) (two1 q.vals.length 0 288230376287764480) [], o ++ [(q.vals.length : Int)], l ++ [⟨q.vals.length, 2 ^ j⟩], ?_, by omega, hq', ?_, ?_, ?_, ?_, ht', rfl⟩
    · rw [fmi_snoc, fmt_snoc, List.length_append, List.length_append, ho, hl]; rfl
    · simp only [rowM, freshM, List.length_append, List.length_singleton]; omega
    · rw [List.length_append, ho]; rfl
    · rw [List.length_append, hl]; rfl
    · intro t ht
      rcases List.mem_append.1 ht with ht | ht
      · exact hlw t ht
      · simp only [List.mem_singleton] at ht; subst ht
        show w64 (2 ^ j)
        have h1 : (2:Int) ^ j < 2 ^ 58 := by
          have := Nat.pow_lt_pow_right (a := 2) (by decide) (show j < 58 by omega)
          exact_mod_cast this
        have h2 : (0:Int) < 2 ^ j := Int.pow_pos (by decide)
        constructor <;> omega
  · have n0 : n' = 0 := by simp at c_; omega
    subst n0
    have e1 : bitS na (bitN n) 0 m [] [] = (q, o, l) := by rw [← show _ = _ from ht]; rfl
    rw [e1]
    have cR := gadget_Maker_row_c (m := q) (Mok.mono hq (by omega)) (⟨by omega, hlw⟩ : tok l) (tok_1 0) (tok_1 na)
    have hfl : AV.sl j (sub 0 (j * 2) (fm tm l)) = slF tm l := by rw [← hl, sub_all (by rw [fm_len tm_len]; exact Nat.le_refl _)]
    have hfo : AV.sl j (sub 0 (j * 1) (fm i1 o)) = il o := by rw [← ho, sub_all (by rw [fm_len i1_len]; exact Nat.le_refl _)]
    refine AW.fz 9001 rfl (fun h => by cases h) (h := ?_)
    refine AW.fz 9002 rfl (fun h => by cases h) (h := ?_)
    rw [hfl, hfo]
    clear hfl hfo e1 ht ho hl
    repeat refine AW.seq ?_
    refine AW.exit ?_
    repeat (first | refine Kseq.ex ?_ | refine Kloop.ex ?_ | refine Kblock.miss (by decide) ?_)
    refine Kblock.hit ?_
    refine AW.kq [0, 1, 7, 8] (h := ?_)
    repeat refine AW.seq ?_
    refine AW.reg ?_
    iterate 2 refine AOL.s1 (h := ?_)
    refine AOL.callD rfl (gadget_just_c) (by kernel_rfl) rfl rfl (h := ?_)
    iterate 1 refine AOL.s1 (h := ?_)
    refine AOL.callD rfl (gadget_just_c) (by kernel_rfl) rfl rfl (h := ?_)
    refine AOL.callM (l := 0) (b := 1000) (cR) rfl (by kernel_rfl) rfl rfl rfl rfl rfl (hst := by simp only [St.drops, St.drop, mapT, mapH, kill, kills, del, St.put, ins, reduceIte, Nat.reduceAdd, Nat.reduceLT, Nat.reduceEqDiff, Bool.false_eq_true]; exact rfl) ?_
    refine AOL.nil ?_
    refine AW.kq [7] (h := ?_)
    repeat refine AW.seq ?_
    refine AW.reg ?_
    iterate 2 refine AOL.s1 (h := ?_)
    refine AOL.nil ?_
    refine AW.kq [6] (h := ?_)
    repeat refine AW.seq ?_
    refine AW.ret ?_
    refine ⟨_, mkOut (rowM q l (one1 0) (one1 na)), rfl, ?_, ?_⟩
    · exact fun p hp => hp
    · exact Tells.self
end Go.Proofs.YtngphcdhdllnnaaGreat.E.M
end
section
/- gadget: a new maker; its system and its values: contracts over E. -/
set_option linter.unusedVariables false
set_option linter.unusedSimpArgs false
set_option maxRecDepth 10000
open Go Go.Proofs.YtngphcdhdllnnaaGreat.E Go.Proofs
namespace Go.Proofs.YtngphcdhdllnnaaGreat.E.M
abbrev mk0 : Mk := ⟨1, 0, [], [1]⟩
abbrev mkNew : List (Nat × Blk) := [(1000, mkB mk0 1001 1002), (1001, rwB []), (1002, vlB [1])]
set_option maxHeartbeats 1000000 in
theorem gadget_New_c : Fn Tryz.prog 9 [] [] (Tells (.ptr 1000 0) mkNew) := by
  refine Fn.enter Tryz.func9 Tryz.ntmps9 rfl (h := ?_)
  have tf := tfm
  have ot_ : (false || true) = true := rfl
  have tfr := tfr
  repeat refine AW.seq ?_
  refine AW.reg ?_
  iterate 1 refine AOL.s1 (h := ?_)
  refine AOL.nil ?_
  refine AW.kq [] (h := ?_)
  repeat refine AW.seq ?_
  refine AW.reg ?_
  iterate 5 refine AOL.s1 (h := ?_)
  refine AOL.nil ?_
  refine AW.kq [0] (h := ?_)
  repeat refine AW.seq ?_
  refine AW.blank 1001 89 (h := ?_)
  refine AW.wkh 1064 (cs' := [i 1, i 0, .ref 1001 0 0 3, .ref 1032 0 1 1]) rfl (Wks.cons (Wk.refl _) (Wks.cons (Wk.refl _) (Wks.cons (Wk.ref0 1001 3) (Wks.refl _)))) (fun h => by cases h) (h := ?_)
  refine AW.mv 1064 1000 (h := ?_)
  refine AW.mv 1032 1002 (h := ?_)
  refine AW.ret ?_
  refine ⟨_, mkNew, rfl, ?_, ?_⟩
  · intro p hp
    simp only [List.mem_cons, List.not_mem_nil, or_false] at hp
    rcases hp with rfl | rfl | rfl <;> simp [fm]
  · exact Tells.self
set_option maxHeartbeats 1000000 in
theorem clone_u {V : List Int} (hV : V ≠ []) (lV : V.length ≤ 1000000) : Fn Tryz.prog 44 [.ref 0 0 V.length 1] [(0, vlB V)] (Tells (.ref 1000 0 V.length 1) [(0, vlB V), (1000, vlB V)]) := by
  refine Fn.enter Tryz.func44 Tryz.ntmps44 rfl (h := ?_)
  have tf := tfm
  have ot_ : (false || true) = true := rfl
  have tfr := tfr
  have lc : (fm u1 V).length = V.length := by rw [fm_len u1_len, Nat.mul_one]
  have lt : (fm u1 V).take V.length = fm u1 V := List.take_of_length_le (Nat.le_of_eq lc)
  have a1 : V.length * 8 ≤ 140737488355328 := by omega
  have a2 : V.length ≤ 4611686018427387904 := by omega
  have ll : V.length ≤ V.length := Nat.le_refl _
  have hn : V.length ≠ 0 := fun h => hV (List.eq_nil_of_length_eq_zero h)
  repeat refine AW.seq ?_
  refine AW.reg ?_
  iterate 1 refine AOL.s1 (h := ?_)
  refine AOL.nil ?_
  refine AW.kq [0] (h := ?_)
  repeat refine AW.seq ?_
  refine AW.reg ?_
  iterate 1 refine AOL.s1 (h := ?_)
  refine AOL.eqNil rfl (h := ?_)
  intro b hb
  refine AOL.nil ?_
  refine AW.kq [0, 4] (h := ?_)
  repeat refine AW.seq ?_
  refine AW.cond rfl (fun c_ => ?_) (fun c_ => ?_)
  · exact absurd (hb (by simpa using c_)) hn
  refine AW.skip ?_
  repeat refine AW.seq ?_
  refine AW.reg ?_
  iterate 4 refine AOL.s1 (h := ?_)
  refine AOL.nil ?_
  refine AW.kq [2] (h := ?_)
  repeat refine AW.seq ?_
  refine AW.mv 1080 1000 (h := ?_)
  refine AW.ret ?_
  refine ⟨_, [(0, vlB V), (1000, vlB V)], rfl, ?_, ?_⟩
  · exact fun p hp => hp
  · exact Tells.self
theorem AOL.cloneU {ops : Array Oper} {o : Oper} {os : List Oper} {K : St → Prop} {st st' : St} {V : List Int} {l L : Nat} (hV : V ≠ []) (lV : V.length ≤ 1000000)
    (hc : callL st ops.toList o = some (44, [.ref l 0 V.length 1])) (h2 : get? l st.h = some (vlB V))
    (hst : ({ (st.drop L) with h := ins L (vlB V) (ins l (vlB V) (st.drop L).h) } : St).put o.dst (.ref L 0 V.length 1) = st' := by simp only [St.drop, mapT, mapH, kill, kills, del, St.put, ins, reduceIte, Nat.reduceLT, Nat.reduceEqDiff, Bool.false_eq_true]; exact rfl)
    (h : AOL Tryz.prog ops os K st') (hL : 1001 ≤ L ∧ L ≠ l := by decide) : AOL Tryz.prog ops (o :: os) K st := by
  have hne : fm u1 V ≠ [] := by intro e; have := fm_len u1_len V; rw [e] at this; cases V <;> simp_all
  obtain ⟨b, rfl⟩ : ∃ b, L = b + 1 := ⟨L - 1, by omega⟩
  refine AOL.callT (las := [.ref 0 0 V.length 1]) (hin := [(0, vlB V)]) [l] b (clone_u hV lV) hc ?_ (by kernel_rfl) ?_ ?_ ?_ ?_ h (by simp) (by simp) (by omega)
  · simp only [rens, ren, nth]
  · intro k hk; simp [labss, labs] at hk; subst hk; simp
  · intro p hp
    simp only [List.mem_singleton] at hp; subst hp
    refine ⟨by simp, ?_, ?_⟩
    · intro k hk; simp only [u1_labs] at hk; cases hk
    · simp only [nth, renB, u1_rens]; exact h2
  · refine ⟨?_, ?_, ?_, ?_, ?_⟩
    · intro p hp
      simp only [List.mem_cons, List.not_mem_nil, or_false] at hp
      rcases hp with rfl | rfl <;> simp
    · intro p hp
      simp only [List.mem_cons, List.not_mem_nil, or_false] at hp
      rcases hp with rfl | rfl <;> simp [hne]
    · intro k hk; simp [labs] at hk; subst hk; simp [hlabs]
    · intro p hp
      simp only [List.mem_cons, List.not_mem_nil, or_false] at hp
      rcases hp with rfl | rfl <;> (intro k hk; simp only [u1_labs] at hk; cases hk)
    · intro x hx y hy
      simp only [hlabs, List.map_cons, List.map_nil, List.mem_cons, List.not_mem_nil, or_false] at hx hy
      rcases hx with rfl | rfl <;> rcases hy with rfl | rfl <;> simp [sig, nth, pos] <;> omega
  · rw [← hst]
    simp only [St.after, consumed, newNames, get?, putH, sig, nth, pos, renB, rens, ren, u1_rens, Nat.reduceLT, Nat.reduceEqDiff, if_true, if_false, reduceIte, Nat.reduceAdd, Nat.zero_add, List.cons_append, List.nil_append, St.drops]
abbrev rok (L : List Rw) : Prop := ∀ r ∈ L, tok r.a ∧ tok r.b ∧ tok r.c
abbrev mkDone (m : Mk) : List (Nat × Blk) := [(0, mkB m 1001 1002), (1001, rwB m.rows), (1002, vlB m.vals), (1003, vlB m.vals)]
set_option maxHeartbeats 8000000 in
theorem gadget_Maker_Done_c {m : Mk} (hm : Mok 0 m) (hr : rok m.rows) : Fn Tryz.prog 18 [.ptr 0 0] [(0, mkB m 1 2), (1, rwB m.rows), (2, vlB m.vals)] (Tells (.tup [.agg [i m.v, i m.p, slF rw_ m.rows], .ref 1003 0 m.vals.length 1]) (mkDone m)) := by
  refine Fn.enter Tryz.func18 Tryz.ntmps18 rfl (h := ?_)
  have tf := tfm
  have ot_ : (false || true) = true := rfl
  have tfr := tfr
  have lR : m.rows.length ≤ 1000000 := by have := hm.2.1; omega
  have lV : m.vals.length ≤ 1000000 := by have := hm.1; omega
  have hV : m.vals ≠ [] := by have := hm.2.2.2; intro e; rw [e] at this; simp at this
  refine AW.mv 1 1001 (h := ?_)
  refine AW.mv 2 1002 (h := ?_)
  repeat refine AW.seq ?_
  refine AW.reg ?_
  iterate 2 refine AOL.s1 (h := ?_)
  refine AOL.nil ?_
  refine AW.kq [0, 2] (h := ?_)
  repeat refine AW.seq ?_
  refine AW.drw 12 [1064] (by kernel_rfl) (h := ?_)
  iterate 12 refine ADL.dm 1 (h := ?_)
  refine ADL.done hmix rfl rfl (hT := ?_)
  iterate 1 refine AOL.s1 (h := ?_)
  refine AOL.nil ?_
  refine AW.kq [0, 2, 4] (h := ?_)
  repeat refine AW.seq ?_
  refine AW.reg ?_
  iterate 7 refine AOL.s1 (h := ?_)
  refine AOL.nil ?_
  refine AW.kq [0, 2, 4, 22, 23, 24] (h := ?_)
  repeat refine AW.seq ?_
  refine AW.block ?_
  repeat refine AW.seq ?_
  refine AW.blank 9001 89 (h := ?_)
  refine AW.wkh 1064 (cs' := [i m.v, i m.p, .ref 9001 0 0 3]) rfl (Wks.cons (Wk.refl _) (Wks.cons (Wk.refl _) (Wks.cons (Wk.ref0 9001 3) Wks.nil))) (fun h => by cases h) (h := ?_)
  refine AW.loopK [0, 2, 4, 22, 23, 24] (fun n s => ∃ (k : Nat) (r : List Rw), s = ⟨50, [(0, .ptr 0 0), (2, .ptr 1032 0), (4, .ptr 1064 0), (22, .ref 1001 0 m.rows.length 3), (23, i m.rows.length), (24, i k)], [(0, mkB m 1001 1002), (1001, rwB m.rows), (1002, vlB m.vals), (1032, ⟨36, true, [i 0, i 0, .val (.slice none 0 0)]⟩), (1064, ⟨36, true, [i m.v, i m.p, .ref 9001 0 r.length 3]⟩), (9001, rwB r)]⟩ ∧ k ≤ m.rows.length ∧ n = m.rows.length - k ∧ id (r = m.rows.take k)) (m.rows.length) ?_ ?_
  · exact ⟨0, [], rfl, Nat.zero_le _, rfl, rfl⟩
  rintro n s ⟨k, r, rfl, hkl, rfl, hM⟩
  repeat refine AW.seq ?_
  refine AW.reg ?_
  iterate 1 refine AOL.s1 (h := ?_)
  refine AOL.nil ?_
  refine AW.kq [0, 2, 4, 22, 23, 24, 25] (h := ?_)
  repeat refine AW.seq ?_
  refine AW.cond rfl (fun c_ => ?_) (fun c_ => ?_)
  · have h1 : k < m.rows.length := by simpa using c_
    have k0 : (0:Int) ≤ k := by omega
    have k1 : (k:Int) < m.rows.length := by omega
    have hw := incq h1 (show m.rows.length < 1000000000 by omega)
    have hd : (fm rw_ m.rows).drop (k * 3) = slF tm m.rows[k].a :: slF tm m.rows[k].b :: slF tm m.rows[k].c :: fm rw_ (m.rows.drop (k + 1)) := fm_at rw_len h1
    obtain ⟨ta, tb, tc⟩ := hr m.rows[k] (List.getElem_mem h1)
    have cA := clone_fro ta
    have cB := clone_fro tb
    have cC := clone_fro tc
    have hrl : r.length = k := by rw [show r = _ from hM, List.length_take]; omega
    have hrn : id (r ++ [m.rows[k]] = m.rows.take (k + 1)) := by show _ = _; rw [show r = _ from hM, List.take_add_one, List.getElem?_eq_getElem h1]; rfl
    have lc : (fm rw_ r).length = k * 3 := by rw [fm_len rw_len, hrl]
    have a1 : (k + 1) * 72 ≤ 140737488355328 := by omega
    have a2 : k + 1 ≤ 4611686018427387904 := by omega
    have a3 : k ≤ 4611686018427387903 := by omega
    have hq : fm rw_ (r ++ [m.rows[k]]) = fm rw_ r ++ [slF tm m.rows[k].a, slF tm m.rows[k].b, slF tm m.rows[k].c] := fmr_snoc _ _
    clear hM c_
    generalize m.rows[k] = x at *
    obtain ⟨xa, xb, xc⟩ := x
    refine AW.skip ?_
    repeat refine AW.seq ?_
    refine AW.block ?_
    repeat refine AW.seq ?_
    refine AW.reg ?_
    iterate 4 refine AOL.s1 (h := ?_)
    refine AOL.nil ?_
    refine AW.kq [0, 2, 4, 6, 22, 23, 24] (h := ?_)
    repeat refine AW.seq ?_
    refine AW.drw 13 [1640] (by kernel_rfl) (h := ?_)
    iterate 4 refine ADL.dm 1 (h := ?_)
    refine ADL.call rfl (cA) (by kernel_rfl) rfl rfl (h := ?_)
    iterate 2 refine ADL.dm 1 (h := ?_)
    refine ADL.call rfl (cB) (by kernel_rfl) rfl rfl (h := ?_)
    iterate 2 refine ADL.dm 1 (h := ?_)
    refine ADL.call rfl (cC) (by kernel_rfl) rfl rfl (h := ?_)
    iterate 2 refine ADL.dm 1 (h := ?_)
    refine ADL.done hmix rfl rfl (hT := ?_)
    iterate 3 refine AOL.s1 (h := ?_)
    refine AOL.nil ?_
    repeat refine AW.seq ?_
    refine AW.let 1096 (h := ?_)
    refine AW.let 1640 (h := ?_)
    refine AW.reg ?_
    iterate 2 refine AOL.s1 (h := ?_)
    refine AOL.nil ?_
    refine ⟨m.rows.length - (k + 1), by omega, k + 1, r ++ [⟨xa, xb, xc⟩], ?_, h1, rfl, hrn⟩
    simp only [rwB, hq, List.length_append, List.length_singleton, hrl]; rfl
  · have hk : k = m.rows.length := by simp at c_; omega
    rw [hk, List.take_of_length_le (Nat.le_refl _)] at hM
    obtain rfl : r = m.rows := hM
    have hfl : AV.sl m.rows.length (sub 0 (m.rows.length * 3) (fm rw_ m.rows)) = slF rw_ m.rows := by rw [sub_all (by rw [fm_len rw_len]; exact Nat.le_refl _)]
    refine AW.fz 9001 rfl (fun h => by cases h) (h := ?_)
    rw [hfl]
    clear hfl hk c_
    repeat refine AW.seq ?_
    refine AW.exit ?_
    repeat (first | refine Kseq.ex ?_ | refine Kloop.ex ?_ | refine Kblock.miss (by decide) ?_)
    refine Kblock.hit ?_
    refine AW.kq [0, 2, 4] (h := ?_)
    repeat refine AW.seq ?_
    refine AW.anyO (st1 := ⟨50, [(2, .ptr 1032 0), (3, .ref 9101 0 m.vals.length 1)], [(0, mkB m 1001 1002), (1001, rwB m.rows), (1002, vlB m.vals), (1032, ⟨36, true, [i m.v, i m.p, slF rw_ m.rows]⟩), (9101, vlB m.vals)]⟩) hmix ?_ ?_
    · refine AAny.stepC [0, 1] (by kernel_rfl) rfl ?_
      refine AAllC.cons rfl rfl ?_ ?_
      · refine AOL.s1 (h := ?_); refine AOL.nil ?_
        refine AAny.stepC [1] (by kernel_rfl) rfl ?_
        refine AAllC.cons rfl rfl ?_ ?_
        · refine AOL.s1 (h := ?_); refine AOL.nil ?_
          refine AAny.stepC [2] (by kernel_rfl) rfl ?_
          refine AAllC.cons rfl rfl ?_ ?_
          · refine AOL.s1 (h := ?_); refine AOL.nil ?_
            refine AAny.stepC [3] (by kernel_rfl) rfl ?_
            refine AAllC.cons rfl rfl ?_ ?_
            · refine AOL.s1 (h := ?_); refine AOL.nil ?_
              refine AAny.stepC [4] (by kernel_rfl) rfl ?_
              refine AAllC.cons rfl rfl ?_ ?_
              · refine AOL.s1 (h := ?_); refine AOL.nil ?_
                refine AAny.stepC [5] (by kernel_rfl) rfl ?_
                refine AAllC.cons rfl rfl ?_ ?_
                · refine AOL.cloneU (l := 1002) (L := 9101) hV lV ?_ ?_ (h := ?_)
                  · rfl
                  · rfl
                  refine AOL.nil ?_
                  refine AAny.stepC [6] (by kernel_rfl) rfl ?_
                  refine AAllC.cons rfl rfl ?_ ?_
                  · refine AOL.s1 (h := ?_); refine AOL.nil ?_
                    refine AAny.stepC [7] (by kernel_rfl) rfl ?_
                    refine AAllC.cons rfl rfl ?_ ?_
                    · iterate 1 refine AOL.s1 (h := ?_)
                      refine AOL.kq [2, 3] (h := ?_)
                      refine AOL.let 1064 (h := ?_)
                      refine AOL.nil ?_
                      exact AAny.done (by kernel_rfl) rfl
                    exact AAllC.nil
                  exact AAllC.nil
                exact AAllC.nil
              exact AAllC.nil
            exact AAllC.nil
          exact AAllC.nil
        exact AAllC.nil
      refine AAllC.cons rfl rfl ?_ ?_
      · refine AOL.s1 (h := ?_); refine AOL.nil ?_
        refine AAny.stepC [0, 2] (by kernel_rfl) rfl ?_
        refine AAllC.cons rfl rfl ?_ ?_
        · refine AOL.s1 (h := ?_); refine AOL.nil ?_
          refine AAny.stepC [2] (by kernel_rfl) rfl ?_
          refine AAllC.cons rfl rfl ?_ ?_
          · refine AOL.s1 (h := ?_); refine AOL.nil ?_
            refine AAny.stepC [3] (by kernel_rfl) rfl ?_
            refine AAllC.cons rfl rfl ?_ ?_
            · refine AOL.s1 (h := ?_); refine AOL.nil ?_
              refine AAny.stepC [4] (by kernel_rfl) rfl ?_
              refine AAllC.cons rfl rfl ?_ ?_
              · refine AOL.s1 (h := ?_); refine AOL.nil ?_
                refine AAny.stepC [5] (by kernel_rfl) rfl ?_
                refine AAllC.cons rfl rfl ?_ ?_
                · refine AOL.cloneU (l := 1002) (L := 9101) hV lV ?_ ?_ (h := ?_)
                  · rfl
                  · rfl
                  refine AOL.nil ?_
                  refine AAny.stepC [6] (by kernel_rfl) rfl ?_
                  refine AAllC.cons rfl rfl ?_ ?_
                  · refine AOL.s1 (h := ?_); refine AOL.nil ?_
                    refine AAny.stepC [7] (by kernel_rfl) rfl ?_
                    refine AAllC.cons rfl rfl ?_ ?_
                    · iterate 1 refine AOL.s1 (h := ?_)
                      refine AOL.kq [2, 3] (h := ?_)
                      refine AOL.let 1064 (h := ?_)
                      refine AOL.nil ?_
                      exact AAny.done (by kernel_rfl) rfl
                    exact AAllC.nil
                  exact AAllC.nil
                exact AAllC.nil
              exact AAllC.nil
            exact AAllC.nil
          exact AAllC.nil
        refine AAllC.cons rfl rfl ?_ ?_
        · refine AOL.s1 (h := ?_); refine AOL.nil ?_
          refine AAny.stepC [0, 3] (by kernel_rfl) rfl ?_
          refine AAllC.cons rfl rfl ?_ ?_
          · refine AOL.s1 (h := ?_); refine AOL.nil ?_
            refine AAny.stepC [3] (by kernel_rfl) rfl ?_
            refine AAllC.cons rfl rfl ?_ ?_
            · refine AOL.s1 (h := ?_); refine AOL.nil ?_
              refine AAny.stepC [4] (by kernel_rfl) rfl ?_
              refine AAllC.cons rfl rfl ?_ ?_
              · refine AOL.s1 (h := ?_); refine AOL.nil ?_
                refine AAny.stepC [5] (by kernel_rfl) rfl ?_
                refine AAllC.cons rfl rfl ?_ ?_
                · refine AOL.cloneU (l := 1002) (L := 9101) hV lV ?_ ?_ (h := ?_)
                  · rfl
                  · rfl
                  refine AOL.nil ?_
                  refine AAny.stepC [6] (by kernel_rfl) rfl ?_
                  refine AAllC.cons rfl rfl ?_ ?_
                  · refine AOL.s1 (h := ?_); refine AOL.nil ?_
                    refine AAny.stepC [7] (by kernel_rfl) rfl ?_
                    refine AAllC.cons rfl rfl ?_ ?_
                    · iterate 1 refine AOL.s1 (h := ?_)
                      refine AOL.kq [2, 3] (h := ?_)
                      refine AOL.let 1064 (h := ?_)
                      refine AOL.nil ?_
                      exact AAny.done (by kernel_rfl) rfl
                    exact AAllC.nil
                  exact AAllC.nil
                exact AAllC.nil
              exact AAllC.nil
            exact AAllC.nil
          refine AAllC.cons rfl rfl ?_ ?_
          · refine AOL.s1 (h := ?_); refine AOL.nil ?_
            refine AAny.stepC [0, 4] (by kernel_rfl) rfl ?_
            refine AAllC.cons rfl rfl ?_ ?_
            · refine AOL.s1 (h := ?_); refine AOL.nil ?_
              refine AAny.stepC [4] (by kernel_rfl) rfl ?_
              refine AAllC.cons rfl rfl ?_ ?_
              · refine AOL.s1 (h := ?_); refine AOL.nil ?_
                refine AAny.stepC [5] (by kernel_rfl) rfl ?_
                refine AAllC.cons rfl rfl ?_ ?_
                · refine AOL.cloneU (l := 1002) (L := 9101) hV lV ?_ ?_ (h := ?_)
                  · rfl
                  · rfl
                  refine AOL.nil ?_
                  refine AAny.stepC [6] (by kernel_rfl) rfl ?_
                  refine AAllC.cons rfl rfl ?_ ?_
                  · refine AOL.s1 (h := ?_); refine AOL.nil ?_
                    refine AAny.stepC [7] (by kernel_rfl) rfl ?_
                    refine AAllC.cons rfl rfl ?_ ?_
                    · iterate 1 refine AOL.s1 (h := ?_)
                      refine AOL.kq [2, 3] (h := ?_)
                      refine AOL.let 1064 (h := ?_)
                      refine AOL.nil ?_
                      exact AAny.done (by kernel_rfl) rfl
                    exact AAllC.nil
                  exact AAllC.nil
                exact AAllC.nil
              exact AAllC.nil
            refine AAllC.cons rfl rfl ?_ ?_
            · refine AOL.s1 (h := ?_); refine AOL.nil ?_
              refine AAny.stepC [0, 5] (by kernel_rfl) rfl ?_
              refine AAllC.cons rfl rfl ?_ ?_
              · refine AOL.s1 (h := ?_); refine AOL.nil ?_
                refine AAny.stepC [5] (by kernel_rfl) rfl ?_
                refine AAllC.cons rfl rfl ?_ ?_
                · refine AOL.cloneU (l := 1002) (L := 9101) hV lV ?_ ?_ (h := ?_)
                  · rfl
                  · rfl
                  refine AOL.nil ?_
                  refine AAny.stepC [6] (by kernel_rfl) rfl ?_
                  refine AAllC.cons rfl rfl ?_ ?_
                  · refine AOL.s1 (h := ?_); refine AOL.nil ?_
                    refine AAny.stepC [7] (by kernel_rfl) rfl ?_
                    refine AAllC.cons rfl rfl ?_ ?_
                    · iterate 1 refine AOL.s1 (h := ?_)
                      refine AOL.kq [2, 3] (h := ?_)
                      refine AOL.let 1064 (h := ?_)
                      refine AOL.nil ?_
                      exact AAny.done (by kernel_rfl) rfl
                    exact AAllC.nil
                  exact AAllC.nil
                exact AAllC.nil
              refine AAllC.cons rfl rfl ?_ ?_
              · refine AOL.cloneU (l := 1002) (L := 9101) hV lV ?_ ?_ (h := ?_)
                · rfl
                · rfl
                refine AOL.nil ?_
                refine AAny.stepC [0] (by kernel_rfl) rfl ?_
                refine AAllC.cons rfl rfl ?_ ?_
                · refine AOL.s1 (h := ?_); refine AOL.nil ?_
                  refine AAny.stepC [6] (by kernel_rfl) rfl ?_
                  refine AAllC.cons rfl rfl ?_ ?_
                  · refine AOL.s1 (h := ?_); refine AOL.nil ?_
                    refine AAny.stepC [7] (by kernel_rfl) rfl ?_
                    refine AAllC.cons rfl rfl ?_ ?_
                    · iterate 1 refine AOL.s1 (h := ?_)
                      refine AOL.kq [2, 3] (h := ?_)
                      refine AOL.let 1064 (h := ?_)
                      refine AOL.nil ?_
                      exact AAny.done (by kernel_rfl) rfl
                    exact AAllC.nil
                  exact AAllC.nil
                exact AAllC.nil
              exact AAllC.nil
            exact AAllC.nil
          exact AAllC.nil
        exact AAllC.nil
      exact AAllC.nil
    skip
    skip
    skip
    skip
    skip
    refine AW.kq [2, 3] (h := ?_)
    repeat refine AW.seq ?_
    refine AW.mv 9101 1003 (h := ?_)
    refine AW.ret ?_
    refine ⟨_, mkDone m, rfl, ?_, ?_⟩
    · intro p hp
      simp only [List.mem_cons, List.not_mem_nil, or_false] at hp
      rcases hp with rfl | rfl | rfl | rfl <;> simp
    · exact Tells.self
end Go.Proofs.YtngphcdhdllnnaaGreat.E.M
end
