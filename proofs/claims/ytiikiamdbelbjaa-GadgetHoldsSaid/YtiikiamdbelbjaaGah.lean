/- obollaw12: deeds of a maker; systems that are the same: contracts over E. -/
import Derived.Test.YtiikiamdbelbjaaGag
import Derived.Test.YtiikiamdbelbjaaProg
import Derived.KernelRfl
set_option linter.unusedVariables false
set_option linter.unusedSimpArgs false
set_option maxRecDepth 10000
open Go Go.Proofs.Ytiikiamdbelbjaa.E Go.Proofs
namespace Go.Proofs.Ytiikiamdbelbjaa.E.M
abbrev TFd : Prop := tSz Try.prog 50 = some 7 ∧
    tAgg Try.prog 50 = some true ∧
    tBytes Try.prog 50 = some 88 ∧
    tZero Try.prog 50 = some [(.int .i64 0), (.int .i64 0), (.int .i64 0), (.int .i64 0), (.int .u64 0), (.slice none 0 0), (.slice none 0 0)] ∧
    tSlice Try.prog 50 = none ∧
    tIface Try.prog 50 = some false ∧
    tCls Try.prog 50 = .other ∧
    tField Try.prog 50 0 = some (0, 3) ∧
    tField Try.prog 50 1 = some (1, 3) ∧
    tField Try.prog 50 2 = some (2, 3) ∧
    tField Try.prog 50 3 = some (3, 3) ∧
    tField Try.prog 50 4 = some (4, 22) ∧
    tField Try.prog 50 5 = some (5, 48) ∧
    tField Try.prog 50 6 = some (6, 41) ∧
    (∀ ps, aBuild Try.prog 50 ps = (aFill ([(0, 1), (1, 1), (2, 1), (3, 1), (4, 1), (5, 1), (6, 1)][·]?) [.val (.int .i64 0), .val (.int .i64 0), .val (.int .i64 0), .val (.int .i64 0), .val (.int .u64 0), .val (.slice none 0 0), .val (.slice none 0 0)] ps).map .agg) ∧
    tSz Try.prog 46 = some 1 ∧
    tAgg Try.prog 46 = some false ∧
    tBytes Try.prog 46 = some 24 ∧
    tZero Try.prog 46 = some [(.slice none 0 0)] ∧
    tSlice Try.prog 46 = some 50 ∧
    Try.prog.underlying 46 = some (.slice 50) ∧
    tIface Try.prog 46 = some false ∧
    tCls Try.prog 46 = .slice
theorem tfd : TFd :=
  ⟨rfl, rfl, rfl, rfl, rfl, rfl, rfl, rfl, rfl, rfl, rfl, rfl, rfl, rfl, fun _ => rfl, rfl, rfl, rfl, rfl, rfl, rfl, rfl, rfl⟩
/-- a new maker is laid -/
theorem AOL.callNew {ops : Array Oper} {o : Oper} {os : List Oper} {K : St → Prop} {st st' : St} {b : Nat}
    (hc : callL st ops.toList o = some (9, []))
    (hst : ({ (st.drops [b, b + 1, b + 2]) with h := ins (b + 2) (vlB [1]) (ins (b + 1) (rwB []) (ins b (mkB mk0 (b + 1) (b + 2)) (st.drops [b, b + 1, b + 2]).h)) } : St).put o.dst (.ptr b 0) = st')
    (h : AOL Try.prog ops os K st') (hb : 1000 ≤ b := by decide) : AOL Try.prog ops (o :: os) K st := by
  refine AOL.callT (las := []) (hin := []) [] b gadget_New_c hc rfl (by kernel_rfl) (by simp [labss]) (by simp) ?_ ?_ h (by simp) (by simp) hb
  · refine ⟨?_, ?_, ?_, ?_, ?_⟩
    · intro p hp
      simp only [List.mem_cons, List.not_mem_nil, or_false] at hp
      rcases hp with rfl | rfl | rfl <;> simp
    · intro p hp
      simp only [List.mem_cons, List.not_mem_nil, or_false] at hp
      rcases hp with rfl | rfl | rfl <;> simp
    · intro k hk; simp [labs] at hk; subst hk; simp [hlabs]
    · intro p hp
      simp only [List.mem_cons, List.not_mem_nil, or_false] at hp
      rcases hp with rfl | rfl | rfl
      · intro k hk; simp [labss, labs] at hk; rcases hk with rfl | rfl <;> simp [hlabs]
      · intro k hk; simp only [rw_labs] at hk; cases hk
      · intro k hk; simp only [u1_labs] at hk; cases hk
    · intro x hx y hy
      simp only [hlabs, List.map_cons, List.map_nil, List.mem_cons, List.not_mem_nil, or_false] at hx hy
      rcases hx with rfl | rfl | rfl <;> rcases hy with rfl | rfl | rfl <;> simp [sig, nth, pos]
  · rw [← hst]
    simp only [St.after, mkNew, consumed, newNames, get?, putH, sig, nth, pos, renB, rens, ren, rw_rens, u1_rens, Nat.reduceLT, Nat.reduceEqDiff, if_true, if_false, reduceIte, Nat.reduceAdd, Nat.zero_add, Nat.add_zero, List.cons_append, List.nil_append]
theorem mkC_free (m : Mk) (lr lv : Nat) : labss (mkC m lr lv) = [lr, lv] := by simp [labss, labs]
/-- a maker tells its system and its values -/
theorem AOL.callDone {ops : Array Oper} {o : Oper} {os : List Oper} {K : St → Prop} {st st' : St} {m : Mk} {l b : Nat} (hm : Mok 0 m ∧ rok m.rows)
    (hc : callL st ops.toList o = some (12, [.ptr l 0]))
    (h0 : get? l st.h = some (mkB m (b + 1) (b + 2))) (h1 : get? (b + 1) st.h = some (rwB m.rows)) (h2 : get? (b + 2) st.h = some (vlB m.vals))
    (hst : ({ (st.drops [b + 1, b + 2, b + 1, b + 2, b + 3]) with h := ins (b + 3) (vlB m.vals) (ins (b + 2) (vlB m.vals) (ins (b + 1) (rwB m.rows) (ins l (mkB m (b + 1) (b + 2)) (st.drops [b + 1, b + 2, b + 1, b + 2, b + 3]).h))) } : St).put o.dst (.tup [.agg [i m.v, i m.p, slF rw_ m.rows], .ref (b + 3) 0 m.vals.length 1]) = st')
    (h : AOL Try.prog ops os K st') (hl : l ≠ b + 1 ∧ l ≠ b + 2 ∧ l ≠ b + 3 := by decide) (hb : 1000 ≤ b := by decide) : AOL Try.prog ops (o :: os) K st := by
  refine AOL.callT (las := [.ptr 0 0]) (hin := mkIn m) [l, b + 1, b + 2] b (gadget_Maker_Done_c hm.1 hm.2) hc ?_ (by kernel_rfl) ?_ ?_ ?_ ?_ h ?_ (by simp) hb
  · simp only [rens, ren, nth]
  · intro k hk; simp [labss, labs] at hk; subst hk; simp
  · intro p hp
    simp only [List.mem_cons, List.not_mem_nil, or_false] at hp
    rcases hp with rfl | rfl | rfl
    · refine ⟨by simp, ?_, ?_⟩
      · intro k hk; simp [labss, labs] at hk; rcases hk with rfl | rfl <;> simp
      · simp only [nth, renB, rens, ren]; exact h0
    · refine ⟨by simp, ?_, ?_⟩
      · intro k hk; simp only [rw_labs] at hk; cases hk
      · simp only [nth, renB, rw_rens]; exact h1
    · refine ⟨by simp, ?_, ?_⟩
      · intro k hk; simp only [u1_labs] at hk; cases hk
      · simp only [nth, renB, u1_rens]; exact h2
  · refine ⟨?_, ?_, ?_, ?_, ?_⟩
    · intro p hp
      simp only [List.mem_cons, List.not_mem_nil, or_false] at hp
      rcases hp with rfl | rfl | rfl | rfl <;> simp
    · intro p hp
      simp only [List.mem_cons, List.not_mem_nil, or_false] at hp
      rcases hp with rfl | rfl | rfl | rfl <;> simp
    · intro k hk; simp [labs, labss] at hk; subst hk; simp [hlabs]
    · intro p hp
      simp only [List.mem_cons, List.not_mem_nil, or_false] at hp
      rcases hp with rfl | rfl | rfl | rfl
      · intro k hk; simp [labss, labs] at hk; rcases hk with rfl | rfl <;> simp [hlabs]
      · intro k hk; simp only [rw_labs] at hk; cases hk
      · intro k hk; simp only [u1_labs] at hk; cases hk
      · intro k hk; simp only [u1_labs] at hk; cases hk
    · intro x hx y hy
      simp only [hlabs, List.map_cons, List.map_nil, List.mem_cons, List.not_mem_nil, or_false] at hx hy
      rcases hx with rfl | rfl | rfl | rfl <;> rcases hy with rfl | rfl | rfl | rfl <;> simp [sig, nth, pos] <;> omega
  · rw [← hst]
    simp only [St.after, mkDone, consumed, newNames, get?, putH, sig, nth, pos, renB, rens, ren, rw_rens, u1_rens, Nat.reduceLT, Nat.reduceEqDiff, if_true, if_false, reduceIte, Nat.reduceAdd, Nat.zero_add, List.cons_append, List.nil_append]
  · simp; omega
abbrev i64b (c : Int) : Prop := -9223372036854775808 ≤ c ∧ c < 9223372036854775808
def pkF (c : Int) : Int := (if c < 0 then -(c + 1) else c) % 9
set_option maxHeartbeats 1000000 in
theorem obollaw12_pick_c {c : Int} (hc : i64b c) : Fn Try.prog 24 [i c, i 9] [] (fun r h_ => r = i (pkF c)) := by
  refine Fn.enter Try.func24 Try.ntmps24 rfl (h := ?_)
  have tf := tfm
  have ot_ : (false || true) = true := rfl
  have tfr := tfr
  repeat refine AW.seq ?_
  refine AW.reg ?_
  iterate 1 refine AOL.s1 (h := ?_)
  refine AOL.nil ?_
  refine AW.kq [0, 1] (h := ?_)
  repeat refine AW.seq ?_
  refine AW.reg ?_
  iterate 2 refine AOL.s1 (h := ?_)
  refine AOL.nil ?_
  refine AW.kq [0, 1, 6] (h := ?_)
  repeat refine AW.seq ?_
  refine AW.midK [0, 1] (fun t => ∃ (x : Int), t = ⟨13, [(0, i x), (1, i 9)], []⟩ ∧ 0 ≤ x ∧ id (pkF c = x % 9)) ?_ ?_
  · refine AW.cond rfl (fun c_ => ?_) (fun c_ => ?_)
    · have cn : c < 0 := by simpa using c_
      have w1 : IntKind.i64.wrap (c + 1) = c + 1 := wrapI_o (by omega) (by omega)
      have w2 : IntKind.i64.wrap (0 - (c + 1)) = -(c + 1) := by rw [wrapI_o (by omega) (by omega)]; omega
      have w3 : id (pkF c = -(c + 1) % 9) := by show _ = _; unfold pkF; rw [if_pos cn]
      clear c_
      repeat refine AW.seq ?_
      refine AW.reg ?_
      iterate 4 refine AOL.s1 (h := ?_)
      refine AOL.nil ?_
      exact ⟨_, rfl, by omega, w3⟩
    · have cn : ¬ c < 0 := by simpa using c_
      have w3 : id (pkF c = c % 9) := by show _ = _; unfold pkF; rw [if_neg cn]
      refine AW.skip ?_
      exact ⟨_, rfl, by omega, w3⟩
  rintro t ⟨x, rfl, hx, he⟩
  repeat refine AW.seq ?_
  refine AW.reg ?_
  iterate 4 refine AOL.s1 (h := ?_)
  refine AOL.nil ?_
  refine AW.kq [4] (h := ?_)
  repeat refine AW.seq ?_
  have tm9 : x.tmod 9 = x % 9 := Int.tmod_eq_emod_of_nonneg hx
  refine AW.ret ?_
  refine ⟨_, [], rfl, HOk.nil _, ?_⟩
  rw [show pkF c = x % 9 from he]
  show i (x.tmod 9) = _
  rw [tm9]
structure Dd where
  what : Int
  a : Int
  b : Int
  n : Int
  k : Int
  L : List Tm
  V : List Int
  deriving Inhabited
abbrev dd (d : Dd) : List AV := [i d.what, i d.a, i d.b, i d.n, u d.k, slF tm d.L, il d.V]
theorem dd_len (d : Dd) : (dd d).length = 7 := rfl
set_option maxHeartbeats 1000000 in
theorem obollaw12_small_c {d : Dd} (h1 : d.L.length < 9223372036854775808) (h2 : d.V.length < 9223372036854775808) : Fn Try.prog 20 [.agg (dd d)] [] (fun r h_ => r = bo (decide (d.L.length ≤ 20) && decide (d.V.length ≤ 5))) := by
  refine Fn.enter Try.func20 Try.ntmps20 rfl (h := ?_)
  have tf := tfm
  have ot_ : (false || true) = true := rfl
  have tfr := tfr
  have tfd := tfd
  repeat refine AW.seq ?_
  refine AW.reg ?_
  iterate 2 refine AOL.s1 (h := ?_)
  refine AOL.nil ?_
  refine AW.kq [1] (h := ?_)
  repeat refine AW.seq ?_
  refine AW.reg ?_
  iterate 5 refine AOL.s1 (h := ?_)
  refine AOL.kq [1, 7] (h := ?_)
  refine AOL.and 7 12 (os' := ?_) (x := ?_) (h1 := ?_) (h0 := ?_) (h := ?_)
  rotate_left 2
  iterate 2
    · intro hb_ K' hK; (iterate 5 refine AOL.s1 (h := ?_)); refine AOL.kq [1, 12] (h := ?_); exact hK
  iterate 1 refine AOL.s1 (h := ?_)
  refine AOL.nil ?_
  refine AW.kq [2] (h := ?_)
  repeat refine AW.seq ?_
  refine AW.ret ?_
  refine ⟨_, [], rfl, HOk.nil _, ?_⟩
  show bo _ = bo _
  rw [show decide ((d.L.length : Int) ≤ 20) = decide (d.L.length ≤ 20) by rw [decide_eq_decide]; omega, show decide ((d.V.length : Int) ≤ 5) = decide (d.V.length ≤ 5) by rw [decide_eq_decide]; omega]
def callMk (m : Mk) (d : Dd) : Mk :=
  if (pkF d.what == 0) = true then pubM m d.k else
  if (pkF d.what == 1) = true then freshM m d.k else
  if (pkF d.what == 2) = true then linM m d.L else
  if (pkF d.what == 3) = true then mulM m d.a d.b else
  if (pkF d.what == 4) = true then bitM m d.a d.n else
  if (pkF d.what == 5) = true then choM m d.n d.a d.b else
  if (pkF d.what == 6) = true then sameM m d.a d.b else
  if (pkF d.what == 7) = true then twoM m d.a d.b else
  (manE m d.V).1
set_option maxHeartbeats 4000000 in
theorem obollaw12_call_c {m : Mk} {d : Dd} (hm : Mok 117 m) (hp : 0 ≤ m.p ∧ m.p < 1000000) (hw : i64b d.what) (hk : w64 d.k) (hL : tok d.L) (hV : d.V.length ≤ 5) : Fn Try.prog 21 [.ptr 0 0, .agg (dd d)] [(0, mkB m 1 2), (1, rwB m.rows), (2, vlB m.vals)] (Tells (.tup []) (mkOut (callMk m d))) := by
  refine Fn.enter Try.func21 Try.ntmps21 rfl (h := ?_)
  have tf := tfm
  have ot_ : (false || true) = true := rfl
  have tfr := tfr
  have tfd := tfd
  have cP := obollaw12_pick_c hw
  have hm1 : Mok 1 m := Mok.mono hm (by decide)
  have hm2 : Mok 2 m := Mok.mono hm (by decide)
  have hm14 : Mok 14 m := Mok.mono hm (by decide)
  have hmM : Mok (14 * d.V.length + 2) m := Mok.mono hm (by omega)
  have hC : id (callMk m d = callMk m d) := rfl
  unfold callMk
  generalize pkF d.what = w at *
  refine AW.mv 1 1001 (h := ?_)
  refine AW.mv 2 1002 (h := ?_)
  repeat refine AW.seq ?_
  refine AW.reg ?_
  iterate 1 refine AOL.s1 (h := ?_)
  refine AOL.nil ?_
  refine AW.kq [0, 3] (h := ?_)
  repeat refine AW.seq ?_
  refine AW.reg ?_
  iterate 2 refine AOL.s1 (h := ?_)
  refine AOL.callD rfl (cP) (by kernel_rfl) rfl rfl (h := ?_)
  refine AOL.nil ?_
  refine AW.kq [0, 3, 6] (h := ?_)
  repeat refine AW.seq ?_
  refine AW.block ?_
  repeat refine AW.seq ?_
  refine AW.reg ?_
  iterate 2 refine AOL.s1 (h := ?_)
  refine AOL.nil ?_
  refine AW.kq [0, 3, 6, 11] (h := ?_)
  repeat refine AW.seq ?_
  refine AW.cond rfl (fun c0_ => ?_) (fun c0_ => ?_)
  · rw [if_pos c0_]
    repeat refine AW.seq ?_
    refine AW.reg ?_
    iterate 3 refine AOL.s1 (h := ?_)
    refine AOL.callM (l := 0) (b := 1000) (gadget_Maker_Public_c hm1 hk hp) rfl (by kernel_rfl) rfl rfl rfl rfl rfl (hst := by simp only [St.drops, St.drop, mapT, mapH, kill, kills, del, St.put, ins, reduceIte, Nat.reduceAdd, Nat.reduceLT, Nat.reduceEqDiff, Bool.false_eq_true]; exact rfl) ?_
    refine AOL.nil ?_
    refine ⟨_, mkOut (pubM m d.k), rfl, HOk.three rfl, Tells.self⟩
  · skip
    repeat refine AW.seq ?_
    refine AW.reg ?_
    iterate 2 refine AOL.s1 (h := ?_)
    refine AOL.nil ?_
    refine AW.kq [0, 3, 6, 17] (h := ?_)
    repeat refine AW.seq ?_
    refine AW.cond rfl (fun c1_ => ?_) (fun c1_ => ?_)
    · rw [if_neg (by rw [c0_]; decide), if_pos c1_]
      repeat refine AW.seq ?_
      refine AW.reg ?_
      iterate 3 refine AOL.s1 (h := ?_)
      refine AOL.callM (l := 0) (b := 1000) (gadget_Maker_Private_c hm1 hk) rfl (by kernel_rfl) rfl rfl rfl rfl rfl (hst := by simp only [St.drops, St.drop, mapT, mapH, kill, kills, del, St.put, ins, reduceIte, Nat.reduceAdd, Nat.reduceLT, Nat.reduceEqDiff, Bool.false_eq_true]; exact rfl) ?_
      refine AOL.nil ?_
      refine ⟨_, mkOut (freshM m d.k), rfl, HOk.three rfl, Tells.self⟩
    · skip
      repeat refine AW.seq ?_
      refine AW.reg ?_
      iterate 2 refine AOL.s1 (h := ?_)
      refine AOL.nil ?_
      refine AW.kq [0, 3, 6, 23] (h := ?_)
      repeat refine AW.seq ?_
      refine AW.cond rfl (fun c2_ => ?_) (fun c2_ => ?_)
      · rw [if_neg (by rw [c0_]; decide), if_neg (by rw [c1_]; decide), if_pos c2_]
        repeat refine AW.seq ?_
        refine AW.reg ?_
        iterate 3 refine AOL.s1 (h := ?_)
        refine AOL.callM (l := 0) (b := 1000) (gadget_Maker_Linear_c hm2 hL) rfl (by kernel_rfl) rfl rfl rfl rfl rfl (hst := by simp only [St.drops, St.drop, mapT, mapH, kill, kills, del, St.put, ins, reduceIte, Nat.reduceAdd, Nat.reduceLT, Nat.reduceEqDiff, Bool.false_eq_true]; exact rfl) ?_
        refine AOL.nil ?_
        refine ⟨_, mkOut (linM m d.L), rfl, HOk.three rfl, Tells.self⟩
      · skip
        repeat refine AW.seq ?_
        refine AW.reg ?_
        iterate 2 refine AOL.s1 (h := ?_)
        refine AOL.nil ?_
        refine AW.kq [0, 3, 6, 29] (h := ?_)
        repeat refine AW.seq ?_
        refine AW.cond rfl (fun c3_ => ?_) (fun c3_ => ?_)
        · rw [if_neg (by rw [c0_]; decide), if_neg (by rw [c1_]; decide), if_neg (by rw [c2_]; decide), if_pos c3_]
          repeat refine AW.seq ?_
          refine AW.reg ?_
          iterate 5 refine AOL.s1 (h := ?_)
          refine AOL.callM (l := 0) (b := 1000) (gadget_Maker_Mul_c hm2) rfl (by kernel_rfl) rfl rfl rfl rfl rfl (hst := by simp only [St.drops, St.drop, mapT, mapH, kill, kills, del, St.put, ins, reduceIte, Nat.reduceAdd, Nat.reduceLT, Nat.reduceEqDiff, Bool.false_eq_true]; exact rfl) ?_
          refine AOL.nil ?_
          refine ⟨_, mkOut (mulM m d.a d.b), rfl, HOk.three rfl, Tells.self⟩
        · skip
          repeat refine AW.seq ?_
          refine AW.reg ?_
          iterate 2 refine AOL.s1 (h := ?_)
          refine AOL.nil ?_
          refine AW.kq [0, 3, 6, 37] (h := ?_)
          repeat refine AW.seq ?_
          refine AW.cond rfl (fun c4_ => ?_) (fun c4_ => ?_)
          · rw [if_neg (by rw [c0_]; decide), if_neg (by rw [c1_]; decide), if_neg (by rw [c2_]; decide), if_neg (by rw [c3_]; decide), if_pos c4_]
            repeat refine AW.seq ?_
            refine AW.reg ?_
            iterate 5 refine AOL.s1 (h := ?_)
            refine AOL.callM (l := 0) (b := 1000) (gadget_Maker_Bits_c hm) rfl (by kernel_rfl) rfl rfl rfl rfl rfl (hst := by simp only [St.drops, St.drop, mapT, mapH, kill, kills, del, St.put, ins, reduceIte, Nat.reduceAdd, Nat.reduceLT, Nat.reduceEqDiff, Bool.false_eq_true]; exact rfl) ?_
            refine AOL.nil ?_
            refine ⟨_, mkOut (bitM m d.a d.n), rfl, HOk.three rfl, Tells.self⟩
          · skip
            repeat refine AW.seq ?_
            refine AW.reg ?_
            iterate 2 refine AOL.s1 (h := ?_)
            refine AOL.nil ?_
            refine AW.kq [0, 3, 6, 45] (h := ?_)
            repeat refine AW.seq ?_
            refine AW.cond rfl (fun c5_ => ?_) (fun c5_ => ?_)
            · rw [if_neg (by rw [c0_]; decide), if_neg (by rw [c1_]; decide), if_neg (by rw [c2_]; decide), if_neg (by rw [c3_]; decide), if_neg (by rw [c4_]; decide), if_pos c5_]
              repeat refine AW.seq ?_
              refine AW.reg ?_
              iterate 7 refine AOL.s1 (h := ?_)
              refine AOL.callM (l := 0) (b := 1000) (gadget_Maker_Choose_c hm2) rfl (by kernel_rfl) rfl rfl rfl rfl rfl (hst := by simp only [St.drops, St.drop, mapT, mapH, kill, kills, del, St.put, ins, reduceIte, Nat.reduceAdd, Nat.reduceLT, Nat.reduceEqDiff, Bool.false_eq_true]; exact rfl) ?_
              refine AOL.nil ?_
              refine ⟨_, mkOut (choM m d.n d.a d.b), rfl, HOk.three rfl, Tells.self⟩
            · skip
              repeat refine AW.seq ?_
              refine AW.reg ?_
              iterate 2 refine AOL.s1 (h := ?_)
              refine AOL.nil ?_
              refine AW.kq [0, 3, 6, 55] (h := ?_)
              repeat refine AW.seq ?_
              refine AW.cond rfl (fun c6_ => ?_) (fun c6_ => ?_)
              · rw [if_neg (by rw [c0_]; decide), if_neg (by rw [c1_]; decide), if_neg (by rw [c2_]; decide), if_neg (by rw [c3_]; decide), if_neg (by rw [c4_]; decide), if_neg (by rw [c5_]; decide), if_pos c6_]
                repeat refine AW.seq ?_
                refine AW.reg ?_
                iterate 5 refine AOL.s1 (h := ?_)
                refine AOL.callM (l := 0) (b := 1000) (gadget_Maker_Same_c hm1) rfl (by kernel_rfl) rfl rfl rfl rfl rfl (hst := by simp only [St.drops, St.drop, mapT, mapH, kill, kills, del, St.put, ins, reduceIte, Nat.reduceAdd, Nat.reduceLT, Nat.reduceEqDiff, Bool.false_eq_true]; exact rfl) ?_
                refine AOL.nil ?_
                refine ⟨_, mkOut (sameM m d.a d.b), rfl, HOk.three rfl, Tells.self⟩
              · skip
                repeat refine AW.seq ?_
                refine AW.reg ?_
                iterate 2 refine AOL.s1 (h := ?_)
                refine AOL.nil ?_
                refine AW.kq [0, 3, 63] (h := ?_)
                repeat refine AW.seq ?_
                refine AW.cond rfl (fun c7_ => ?_) (fun c7_ => ?_)
                · rw [if_neg (by rw [c0_]; decide), if_neg (by rw [c1_]; decide), if_neg (by rw [c2_]; decide), if_neg (by rw [c3_]; decide), if_neg (by rw [c4_]; decide), if_neg (by rw [c5_]; decide), if_neg (by rw [c6_]; decide), if_pos c7_]
                  repeat refine AW.seq ?_
                  refine AW.reg ?_
                  iterate 5 refine AOL.s1 (h := ?_)
                  refine AOL.callM (l := 0) (b := 1000) (gadget_Maker_Two_c hm14) rfl (by kernel_rfl) rfl rfl rfl rfl rfl (hst := by simp only [St.drops, St.drop, mapT, mapH, kill, kills, del, St.put, ins, reduceIte, Nat.reduceAdd, Nat.reduceLT, Nat.reduceEqDiff, Bool.false_eq_true]; exact rfl) ?_
                  refine AOL.nil ?_
                  refine ⟨_, mkOut (twoM m d.a d.b), rfl, HOk.three rfl, Tells.self⟩
                · skip
                  repeat refine AW.seq ?_
                  refine AW.reg ?_
                  iterate 3 refine AOL.s1 (h := ?_)
                  refine AOL.callM (l := 0) (b := 1000) (gadget_Maker_Many_c hmM) rfl (by kernel_rfl) rfl rfl rfl rfl rfl (hst := by simp only [St.drops, St.drop, mapT, mapH, kill, kills, del, St.put, ins, reduceIte, Nat.reduceAdd, Nat.reduceLT, Nat.reduceEqDiff, Bool.false_eq_true]; exact rfl) ?_
                  refine AOL.nil ?_
                  rw [if_neg (by rw [c0_]; decide), if_neg (by rw [c1_]; decide), if_neg (by rw [c2_]; decide), if_neg (by rw [c3_]; decide), if_neg (by rw [c4_]; decide), if_neg (by rw [c5_]; decide), if_neg (by rw [c6_]; decide), if_neg (by rw [c7_]; decide)]
                  refine ⟨_, mkOut (manE m d.V).1, rfl, HOk.three rfl, Tells.self⟩
end Go.Proofs.Ytiikiamdbelbjaa.E.M

