/- Texts joined: ZVCpA, ZVCbe, ZVCma, ZVCmb, ZVCmc. -/
import Derived.Test.YtngphcdhdllnnaaGreatZW5
import Derived.Test.YtngphcdhdllnnaaGreatZW8
import Derived.Test.YtngphcdhdllnnaaGreatProg
import Derived.KernelRfl
section
/- obolref16, 17, 18 over gadget's texts: climbing, marks, whether a move fits and is right (printed by s/mk_cport.py out of Tre, Clm, Rgt, Fit). -/
set_option linter.unusedVariables false
set_option linter.unusedSimpArgs false
set_option maxRecDepth 10000
open Go Go.Proofs.YtngphcdhdllnnaaGreat.E Go.Proofs
namespace Go.Proofs.YtngphcdhdllnnaaGreat.E.M
abbrev TFn : Prop := tSz Tryz.prog 24 = some 3 ∧
    tAgg Tryz.prog 24 = some true ∧
    tBytes Tryz.prog 24 = some 24 ∧
    tZero Tryz.prog 24 = some [(.int .u64 0), (.int .u64 0), (.int .u64 0)] ∧
    tSlice Tryz.prog 24 = none ∧
    tIface Tryz.prog 24 = some false ∧
    tCls Tryz.prog 24 = .other ∧
    tField Tryz.prog 24 0 = some (0, 22) ∧
    tField Tryz.prog 24 1 = some (1, 22) ∧
    tField Tryz.prog 24 2 = some (2, 22) ∧
    (∀ ps, aBuild Tryz.prog 24 ps = (aFill ([(0, 1), (1, 1), (2, 1)][·]?) [.val (.int .u64 0), .val (.int .u64 0), .val (.int .u64 0)] ps).map .agg) ∧
    tSz Tryz.prog 27 = some 6 ∧
    tAgg Tryz.prog 27 = some true ∧
    tBytes Tryz.prog 27 = some 64 ∧
    tZero Tryz.prog 27 = some [(.int .u64 0), (.int .u64 0), (.int .u64 0), (.int .u64 0), (.int .i64 0), (.slice none 0 0)] ∧
    tSlice Tryz.prog 27 = none ∧
    tIface Tryz.prog 27 = some false ∧
    tCls Tryz.prog 27 = .other ∧
    tField Tryz.prog 27 0 = some (0, 22) ∧
    tField Tryz.prog 27 1 = some (1, 24) ∧
    tField Tryz.prog 27 2 = some (4, 3) ∧
    tField Tryz.prog 27 3 = some (5, 25) ∧
    (∀ ps, aBuild Tryz.prog 27 ps = (aFill ([(0, 1), (1, 3), (4, 1), (5, 1)][·]?) [.val (.int .u64 0), .val (.int .u64 0), .val (.int .u64 0), .val (.int .u64 0), .val (.int .i64 0), .val (.slice none 0 0)] ps).map .agg) ∧
    tSz Tryz.prog 25 = some 1 ∧
    tAgg Tryz.prog 25 = some false ∧
    tBytes Tryz.prog 25 = some 24 ∧
    tZero Tryz.prog 25 = some [(.slice none 0 0)] ∧
    tSlice Tryz.prog 25 = some 22 ∧
    Tryz.prog.underlying 25 = some (.slice 22) ∧
    tIface Tryz.prog 25 = some false ∧
    tCls Tryz.prog 25 = .slice ∧
    tSz Tryz.prog 22 = some 1 ∧
    tAgg Tryz.prog 22 = some false ∧
    tBytes Tryz.prog 22 = some 8 ∧
    tZero Tryz.prog 22 = some [(.int .u64 0)] ∧
    tSlice Tryz.prog 22 = none ∧
    tInt Tryz.prog 22 = some .u64 ∧
    Tryz.prog.underlying 22 = some (.int .u64) ∧
    tIface Tryz.prog 22 = some false ∧
    tCls Tryz.prog 22 = .other ∧
    tSz Tryz.prog 3 = some 1 ∧
    tAgg Tryz.prog 3 = some false ∧
    tBytes Tryz.prog 3 = some 8 ∧
    tZero Tryz.prog 3 = some [(.int .i64 0)] ∧
    tSlice Tryz.prog 3 = none ∧
    tInt Tryz.prog 3 = some .i64 ∧
    Tryz.prog.underlying 3 = some (.int .i64) ∧
    tIface Tryz.prog 3 = some false ∧
    tCls Tryz.prog 3 = .other
theorem tfn : TFn :=
  ⟨rfl, rfl, rfl, rfl, rfl, rfl, rfl, rfl, rfl, rfl, fun _ => rfl, rfl, rfl, rfl, rfl, rfl, rfl, rfl, rfl, rfl, rfl, rfl, fun _ => rfl, rfl, rfl, rfl, rfl, rfl, rfl, rfl, rfl, rfl, rfl, rfl, rfl, rfl, rfl, rfl, rfl, rfl, rfl, rfl, rfl, rfl, rfl, rfl, rfl, rfl, rfl⟩

/-- a note: value, owner, rho -/
abbrev nt (n : Int × Int × Int) : AV := .agg [u n.1, u n.2.1, u n.2.2]
abbrev wN (n : Int × Int × Int) : Prop := w64 n.1 ∧ w64 n.2.1 ∧ w64 n.2.2
def mrkH (n : Int × Int × Int) : Int := manyH [n.1, n.2.1, n.2.2]
/-- an input: key, note, place, path -/
structure Ip where
  k : Int
  n : Int × Int × Int
  a : Int
  p : List Int
abbrev ip (x : Ip) : AV := .agg [u x.k, u x.n.1, u x.n.2.1, u x.n.2.2, i x.a, ul x.p]
def endH (x : Ip) : Int := manyH [twoH x.k 1, x.n.2.2, x.a]
def climbH : List Int → Int → Int → Int
  | [], _, h => h
  | x :: r, n, h => climbH r (n / 2) (if n % 2 = 1 then twoH x h else twoH h x)
def nonneg (n : Int) : Int := if n < 0 then 0 else n
theorem i64_o {n : Int} (h0 : 0 ≤ n) (h1 : n < 9223372036854775808) : IntKind.u64.wrap n = n := wrapU_o h0 (by omega)
set_option maxHeartbeats 1000000 in
theorem obolref17_Mark_c {n : Int × Int × Int} (hn : wN n) : Fn Tryz.prog 32 [nt n] [] (fun r h_ => r = u (mrkH n)) := by
  refine Fn.enter Tryz.func32 Tryz.ntmps32 rfl (h := ?_)
  have tf := tfn
  have ot_ : (false || true) = true := rfl
  obtain ⟨v, o, r⟩ := n
  obtain ⟨h1, h2, h3⟩ := hn
  simp only at h1 h2 h3
  repeat refine AW.seq ?_
  refine AW.reg ?_
  iterate 2 refine AOL.s1 (h := ?_)
  refine AOL.nil ?_
  refine AW.kq [1] (h := ?_)
  repeat refine AW.seq ?_
  refine AW.reg ?_
  iterate 7 refine AOL.s1 (h := ?_)
  refine AOL.fz 1144 rfl (fun h => by cases h) (h := ?_)
  refine AOL.callD rfl (obolref10_Many_c (V := [v, o, r]) (by intro x hx; simp only [List.mem_cons, List.not_mem_nil, or_false] at hx; rcases hx with rfl | rfl | rfl <;> assumption) (by simp)) (by kernel_rfl) rfl rfl (h := ?_)
  iterate 1 refine AOL.s1 (h := ?_)
  refine AOL.nil ?_
  refine AW.kq [2] (h := ?_)
  repeat refine AW.seq ?_
  refine AW.ret ?_
  refine ⟨_, [], rfl, HOk.nil _, ?_⟩
  rfl
set_option maxHeartbeats 1000000 in
theorem obolref18_below_c {n : Int} (hn : w64 n) : Fn Tryz.prog 30 [u n] [] (fun r h_ => r = bo (decide (n < 288230376287764481))) := by
  refine Fn.enter Tryz.func30 Tryz.ntmps30 rfl (h := ?_)
  have tf := tfn
  have ot_ : (false || true) = true := rfl
  repeat refine AW.seq ?_
  refine AW.reg ?_
  iterate 1 refine AOL.s1 (h := ?_)
  refine AOL.nil ?_
  refine AW.kq [0] (h := ?_)
  repeat refine AW.seq ?_
  refine AW.reg ?_
  iterate 3 refine AOL.s1 (h := ?_)
  refine AOL.nil ?_
  refine AW.kq [2] (h := ?_)
  repeat refine AW.seq ?_
  refine AW.ret ?_
  refine ⟨_, [], rfl, HOk.nil _, ?_⟩
  rfl
set_option maxHeartbeats 1000000 in
theorem obolref18_End_c {x : Ip} (hk : w64 x.k) (hr : w64 x.n.2.2) (ha : 0 ≤ x.a ∧ x.a < 9223372036854775808) : Fn Tryz.prog 31 [ip x] [] (fun r h_ => r = u (endH x)) := by
  refine Fn.enter Tryz.func31 Tryz.ntmps31 rfl (h := ?_)
  have tf := tfn
  have ot_ : (false || true) = true := rfl
  obtain ⟨k, ⟨v, o, r⟩, a, p⟩ := x
  simp only at hk hr ha
  have e1 := i64_o ha.1 ha.2
  repeat refine AW.seq ?_
  refine AW.reg ?_
  iterate 2 refine AOL.s1 (h := ?_)
  refine AOL.nil ?_
  refine AW.kq [1] (h := ?_)
  repeat refine AW.seq ?_
  refine AW.drw 9 [] (by kernel_rfl) (h := ?_)
  iterate 2 refine ADL.dm 1 (h := ?_)
  refine ADL.call rfl (obolref10_Two_c hk (by decide)) (by kernel_rfl) rfl rfl (h := ?_)
  iterate 6 refine ADL.dm 1 (h := ?_)
  refine ADL.done hmix rfl rfl (hT := ?_)
  iterate 1 refine AOL.s1 (h := ?_)
  refine AOL.fz 1192 rfl (fun h => by cases h) (h := ?_)
  refine AOL.callD rfl (obolref10_Many_c (V := [twoH k 1, r, a]) (by intro x hx; simp only [List.mem_cons, List.not_mem_nil, or_false] at hx; rcases hx with rfl | rfl | rfl; exact (twoH_l _ _).w; exact hr; exact ⟨ha.1, by omega⟩) (by simp)) (by kernel_rfl) rfl rfl (h := ?_)
  iterate 1 refine AOL.s1 (h := ?_)
  refine AOL.nil ?_
  refine AW.kq [2] (h := ?_)
  repeat refine AW.seq ?_
  refine AW.ret ?_
  refine ⟨_, [], rfl, HOk.nil _, ?_⟩
  rfl
theorem nonneg_0 {n : Int} (h : n < 0) : nonneg n = 0 := if_pos h
theorem nonneg_n {n : Int} (h : ¬ n < 0) : nonneg n = n := if_neg h
theorem climbH_l {h : Int} (hh : lR h) : ∀ (p : List Int) (n : Int), lR (climbH p n h)
  | [], _ => hh
  | x :: r, n => by
    unfold climbH
    refine climbH_l ?_ r (n / 2)
    split <;> exact twoH_l _ _
set_option maxHeartbeats 1000000 in
theorem obolref16_Climb_c {h n : Int} {V : List Int} (hh : w64 h) (hn : n < 9223372036854775808) (hV : wV V) (lV : V.length < 1000000000) : Fn Tryz.prog 52 [u h, i n, ul V] [] (fun r h_ => r = u (climbH V (nonneg n) h)) := by
  refine Fn.enter Tryz.func52 Tryz.ntmps52 rfl (h := ?_)
  have tf := tfn
  have ot_ : (false || true) = true := rfl
  repeat refine AW.seq ?_
  refine AW.reg ?_
  iterate 1 refine AOL.s1 (h := ?_)
  refine AOL.nil ?_
  refine AW.kq [0, 1, 2] (h := ?_)
  repeat refine AW.seq ?_
  refine AW.reg ?_
  iterate 2 refine AOL.s1 (h := ?_)
  refine AOL.nil ?_
  refine AW.kq [1, 2, 7] (h := ?_)
  repeat refine AW.seq ?_
  refine AW.reg ?_
  iterate 2 refine AOL.s1 (h := ?_)
  refine AOL.nil ?_
  refine AW.kq [2, 7, 8] (h := ?_)
  repeat refine AW.seq ?_
  refine AW.reg ?_
  iterate 2 refine AOL.s1 (h := ?_)
  refine AOL.nil ?_
  refine AW.kq [2, 7, 8, 13] (h := ?_)
  repeat refine AW.seq ?_
  refine AW.midK [2, 7, 8] (fun t => ∃ (m : Int), t = ⟨38, [(2, ul V), (7, u h), (8, i m)], []⟩ ∧ m = nonneg n) ?_ ?_
  · refine AW.cond rfl (fun c_ => ?_) (fun c_ => ?_)
    · skip
      repeat refine AW.seq ?_
      refine AW.reg ?_
      iterate 1 refine AOL.s1 (h := ?_)
      refine AOL.nil ?_
      exact ⟨_, rfl, (nonneg_0 (by simpa using c_)).symm⟩
    · skip
      refine AW.skip ?_
      exact ⟨_, rfl, (nonneg_n (by simpa using c_)).symm⟩
  rintro t ⟨m, rfl, rfl⟩
  repeat refine AW.seq ?_
  refine AW.reg ?_
  iterate 1 refine AOL.s1 (h := ?_)
  refine AOL.nil ?_
  refine AW.kq [2, 7, 8, 9] (h := ?_)
  repeat refine AW.seq ?_
  refine AW.block ?_
  repeat refine AW.seq ?_
  have m0 : 0 ≤ nonneg n ∧ nonneg n < 9223372036854775808 := by unfold nonneg; split <;> omega
  generalize nonneg n = m at *
  refine AW.loopK [2, 7, 8, 9] (fun n' s => ∃ (k : Nat) (a : Int) (g : Int) (r : List Int), s = ⟨38, [(2, ul V), (7, u g), (8, i a), (9, i k)], []⟩ ∧ V.drop k = r ∧ k ≤ V.length ∧ n' = r.length ∧ w64 g ∧ (0 ≤ a ∧ a < 9223372036854775808) ∧ climbH r a g = climbH V m h) (V.length) ?_ ?_
  · exact ⟨0, m, h, V, rfl, rfl, Nat.zero_le _, rfl, hh, m0, rfl⟩
  rintro n' s ⟨k, a, g, r, rfl, hr, hkl, rfl, hg, ha, hi⟩
  repeat refine AW.seq ?_
  refine AW.reg ?_
  iterate 4 refine AOL.s1 (h := ?_)
  refine AOL.nil ?_
  refine AW.kq [2, 7, 8, 9, 17] (h := ?_)
  repeat refine AW.seq ?_
  refine AW.cond rfl (fun d_ => ?_) (fun d_ => ?_)
  · obtain ⟨t, r, rfl⟩ := ends_cons hr hkl (by simpa using d_)
    obtain ⟨hlt, hr', ht⟩ := dconsq hr
    have hw := incq hlt lV
    have k0 : (0:Int) ≤ k := by omega
    have k1 : (k:Int) < V.length := by omega
    have hd1 : (fm u1 V).drop (k * 1) = u t :: fm u1 r := fm_drop u1_len hr
    have hd' : (fm u1 V).drop k = u t :: fm u1 r := by simpa using hd1
    have wt : w64 t := hV t (List.mem_of_getElem? ht)
    have t1 : Int.tmod a 2 = a % 2 := tmod_nn ha.1
    have t2 : Int.tdiv a 2 = a / 2 := Int.tdiv_eq_ediv_of_nonneg ha.1
    have t3 : IntKind.i64.wrap (a / 2) = a / 2 := by rw [wrapI_o (by omega) (by omega)]
    have t4 : IntKind.i64.wrap (a % 2) = a % 2 := by rw [wrapI_o (by omega) (by omega)]
    have hi : climbH r (a / 2) (if a % 2 = 1 then twoH t g else twoH g t) = climbH V m h := hi
    clear hd1
    refine AW.skip ?_
    repeat refine AW.seq ?_
    refine AW.block ?_
    repeat refine AW.seq ?_
    refine AW.reg ?_
    iterate 3 refine AOL.s1 (h := ?_)
    refine AOL.nil ?_
    refine AW.kq [2, 7, 8, 9, 22] (h := ?_)
    repeat refine AW.seq ?_
    refine AW.midK [2, 7, 8, 9] (fun t => ∃ (g' : Int), t = ⟨38, [(2, ul V), (7, u g'), (8, i a), (9, i k)], []⟩ ∧ w64 g' ∧ climbH r (a / 2) g' = climbH V m h) ?_ ?_
    · refine AW.cond rfl (fun e_ => ?_) (fun e_ => ?_)
      · rw [if_pos (by simpa using e_)] at hi
        repeat refine AW.seq ?_
        refine AW.reg ?_
        iterate 5 refine AOL.s1 (h := ?_)
        refine AOL.callD rfl (obolref10_Two_c wt hg) (by kernel_rfl) rfl rfl (h := ?_)
        iterate 1 refine AOL.s1 (h := ?_)
        refine AOL.nil ?_
        exact ⟨_, rfl, (twoH_l _ _).w, hi⟩
      · rw [if_neg (by simpa using e_)] at hi
        repeat refine AW.seq ?_
        refine AW.reg ?_
        iterate 5 refine AOL.s1 (h := ?_)
        refine AOL.callD rfl (obolref10_Two_c hg wt) (by kernel_rfl) rfl rfl (h := ?_)
        iterate 1 refine AOL.s1 (h := ?_)
        refine AOL.nil ?_
        exact ⟨_, rfl, (twoH_l _ _).w, hi⟩
    rintro t ⟨g', rfl, hg', hi'⟩
    clear hi t1 t4
    repeat refine AW.seq ?_
    refine AW.reg ?_
    iterate 3 refine AOL.s1 (h := ?_)
    refine AOL.nil ?_
    repeat refine AW.seq ?_
    refine AW.reg ?_
    iterate 3 refine AOL.s1 (h := ?_)
    refine AOL.nil ?_
    exact ⟨r.length, by simp, k + 1, a / 2, g', r, rfl, hr', hlt, rfl, hg', by omega, hi'⟩
  · obtain rfl := ends_nil hr (by simpa using d_)
    have hi : g = climbH V m h := hi
    subst hi
    repeat refine AW.seq ?_
    refine AW.exit ?_
    repeat (first | refine Kseq.ex ?_ | refine Kloop.ex ?_ | refine Kblock.miss (by decide) ?_)
    refine Kblock.hit ?_
    refine AW.kq [7] (h := ?_)
    repeat refine AW.seq ?_
    refine AW.reg ?_
    iterate 2 refine AOL.s1 (h := ?_)
    refine AOL.nil ?_
    refine AW.kq [6] (h := ?_)
    repeat refine AW.seq ?_
    refine AW.ret ?_
    refine ⟨_, [], rfl, HOk.nil _, ?_⟩
    rfl
abbrev TFv : Prop := tSz Tryz.prog 31 = some 22 ∧
    tAgg Tryz.prog 31 = some true ∧
    tBytes Tryz.prog 31 = some 208 ∧
    tZero Tryz.prog 31 = some [(.int .u64 0), (.int .u64 0), (.int .u64 0), (.int .u64 0), (.int .u64 0), (.int .u64 0), (.int .u64 0), (.int .u64 0), (.int .i64 0), (.slice none 0 0), (.int .u64 0), (.int .u64 0), (.int .u64 0), (.int .u64 0), (.int .i64 0), (.slice none 0 0), (.int .u64 0), (.int .u64 0), (.int .u64 0), (.int .u64 0), (.int .u64 0), (.int .u64 0)] ∧
    tSlice Tryz.prog 31 = none ∧
    tIface Tryz.prog 31 = some false ∧
    tCls Tryz.prog 31 = .other ∧
    tField Tryz.prog 31 0 = some (0, 22) ∧
    tField Tryz.prog 31 1 = some (1, 22) ∧
    tField Tryz.prog 31 2 = some (2, 22) ∧
    tField Tryz.prog 31 3 = some (3, 22) ∧
    tField Tryz.prog 31 4 = some (4, 28) ∧
    tField Tryz.prog 31 5 = some (16, 29) ∧
    (∀ ps, aBuild Tryz.prog 31 ps = (aFill ([(0, 1), (1, 1), (2, 1), (3, 1), (4, 12), (16, 6)][·]?) [.val (.int .u64 0), .val (.int .u64 0), .val (.int .u64 0), .val (.int .u64 0), .val (.int .u64 0), .val (.int .u64 0), .val (.int .u64 0), .val (.int .u64 0), .val (.int .i64 0), .val (.slice none 0 0), .val (.int .u64 0), .val (.int .u64 0), .val (.int .u64 0), .val (.int .u64 0), .val (.int .i64 0), .val (.slice none 0 0), .val (.int .u64 0), .val (.int .u64 0), .val (.int .u64 0), .val (.int .u64 0), .val (.int .u64 0), .val (.int .u64 0)] ps).map .agg) ∧
    tSz Tryz.prog 28 = some 12 ∧
    tAgg Tryz.prog 28 = some true ∧
    tBytes Tryz.prog 28 = some 128 ∧
    tZero Tryz.prog 28 = some [(.int .u64 0), (.int .u64 0), (.int .u64 0), (.int .u64 0), (.int .i64 0), (.slice none 0 0), (.int .u64 0), (.int .u64 0), (.int .u64 0), (.int .u64 0), (.int .i64 0), (.slice none 0 0)] ∧
    tSlice Tryz.prog 28 = none ∧
    tArray Tryz.prog 28 = some (2, 27) ∧
    Tryz.prog.underlying 28 = some (.array 2 27) ∧
    tIface Tryz.prog 28 = some false ∧
    tCls Tryz.prog 28 = .other ∧
    (∀ ps, aBuild Tryz.prog 28 ps = (aFill (fun i => some (i * 6, 6)) [.val (.int .u64 0), .val (.int .u64 0), .val (.int .u64 0), .val (.int .u64 0), .val (.int .i64 0), .val (.slice none 0 0), .val (.int .u64 0), .val (.int .u64 0), .val (.int .u64 0), .val (.int .u64 0), .val (.int .i64 0), .val (.slice none 0 0)] ps).map .agg) ∧
    tSz Tryz.prog 29 = some 6 ∧
    tAgg Tryz.prog 29 = some true ∧
    tBytes Tryz.prog 29 = some 48 ∧
    tZero Tryz.prog 29 = some [(.int .u64 0), (.int .u64 0), (.int .u64 0), (.int .u64 0), (.int .u64 0), (.int .u64 0)] ∧
    tSlice Tryz.prog 29 = none ∧
    tArray Tryz.prog 29 = some (2, 24) ∧
    Tryz.prog.underlying 29 = some (.array 2 24) ∧
    tIface Tryz.prog 29 = some false ∧
    tCls Tryz.prog 29 = .other ∧
    (∀ ps, aBuild Tryz.prog 29 ps = (aFill (fun i => some (i * 3, 3)) [.val (.int .u64 0), .val (.int .u64 0), .val (.int .u64 0), .val (.int .u64 0), .val (.int .u64 0), .val (.int .u64 0)] ps).map .agg) ∧
    tSz Tryz.prog 24 = some 3 ∧
    tAgg Tryz.prog 24 = some true ∧
    tBytes Tryz.prog 24 = some 24 ∧
    tZero Tryz.prog 24 = some [(.int .u64 0), (.int .u64 0), (.int .u64 0)] ∧
    tSlice Tryz.prog 24 = none ∧
    tIface Tryz.prog 24 = some false ∧
    tCls Tryz.prog 24 = .other ∧
    tField Tryz.prog 24 0 = some (0, 22) ∧
    tField Tryz.prog 24 1 = some (1, 22) ∧
    tField Tryz.prog 24 2 = some (2, 22) ∧
    (∀ ps, aBuild Tryz.prog 24 ps = (aFill ([(0, 1), (1, 1), (2, 1)][·]?) [.val (.int .u64 0), .val (.int .u64 0), .val (.int .u64 0)] ps).map .agg) ∧
    tSz Tryz.prog 27 = some 6 ∧
    tAgg Tryz.prog 27 = some true ∧
    tBytes Tryz.prog 27 = some 64 ∧
    tZero Tryz.prog 27 = some [(.int .u64 0), (.int .u64 0), (.int .u64 0), (.int .u64 0), (.int .i64 0), (.slice none 0 0)] ∧
    tSlice Tryz.prog 27 = none ∧
    tIface Tryz.prog 27 = some false ∧
    tCls Tryz.prog 27 = .other ∧
    tField Tryz.prog 27 0 = some (0, 22) ∧
    tField Tryz.prog 27 1 = some (1, 24) ∧
    tField Tryz.prog 27 2 = some (4, 3) ∧
    tField Tryz.prog 27 3 = some (5, 25) ∧
    (∀ ps, aBuild Tryz.prog 27 ps = (aFill ([(0, 1), (1, 3), (4, 1), (5, 1)][·]?) [.val (.int .u64 0), .val (.int .u64 0), .val (.int .u64 0), .val (.int .u64 0), .val (.int .i64 0), .val (.slice none 0 0)] ps).map .agg) ∧
    tSz Tryz.prog 25 = some 1 ∧
    tAgg Tryz.prog 25 = some false ∧
    tBytes Tryz.prog 25 = some 24 ∧
    tZero Tryz.prog 25 = some [(.slice none 0 0)] ∧
    tSlice Tryz.prog 25 = some 22 ∧
    Tryz.prog.underlying 25 = some (.slice 22) ∧
    tIface Tryz.prog 25 = some false ∧
    tCls Tryz.prog 25 = .slice ∧
    tSz Tryz.prog 22 = some 1 ∧
    tAgg Tryz.prog 22 = some false ∧
    tBytes Tryz.prog 22 = some 8 ∧
    tZero Tryz.prog 22 = some [(.int .u64 0)] ∧
    tSlice Tryz.prog 22 = none ∧
    tInt Tryz.prog 22 = some .u64 ∧
    Tryz.prog.underlying 22 = some (.int .u64) ∧
    tIface Tryz.prog 22 = some false ∧
    tCls Tryz.prog 22 = .other ∧
    tSz Tryz.prog 3 = some 1 ∧
    tAgg Tryz.prog 3 = some false ∧
    tBytes Tryz.prog 3 = some 8 ∧
    tZero Tryz.prog 3 = some [(.int .i64 0)] ∧
    tSlice Tryz.prog 3 = none ∧
    tInt Tryz.prog 3 = some .i64 ∧
    Tryz.prog.underlying 3 = some (.int .i64) ∧
    tIface Tryz.prog 3 = some false ∧
    tCls Tryz.prog 3 = .other
theorem tfv : TFv :=
  ⟨rfl, rfl, rfl, rfl, rfl, rfl, rfl, rfl, rfl, rfl, rfl, rfl, rfl, fun _ => rfl, rfl, rfl, rfl, rfl, rfl, rfl, rfl, rfl, rfl, fun _ => rfl, rfl, rfl, rfl, rfl, rfl, rfl, rfl, rfl, rfl, fun _ => rfl, rfl, rfl, rfl, rfl, rfl, rfl, rfl, rfl, rfl, rfl, fun _ => rfl, rfl, rfl, rfl, rfl, rfl, rfl, rfl, rfl, rfl, rfl, rfl, fun _ => rfl, rfl, rfl, rfl, rfl, rfl, rfl, rfl, rfl, rfl, rfl, rfl, rfl, rfl, rfl, rfl, rfl, rfl, rfl, rfl, rfl, rfl, rfl, rfl, rfl, rfl, rfl⟩
/-- a move -/
structure Mv where
  r : Int
  i : Int
  o : Int
  s : Int
  x : Ip
  y : Ip
  p : Int × Int × Int
  q : Int × Int × Int
abbrev ipc (x : Ip) : List AV := [u x.k, u x.n.1, u x.n.2.1, u x.n.2.2, E.M.i x.a, ul x.p]
abbrev ntc (n : Int × Int × Int) : List AV := [u n.1, u n.2.1, u n.2.2]
abbrev mvc (m : Mv) : List AV := [u m.r, u m.i, u m.o, u m.s] ++ ipc m.x ++ ipc m.y ++ ntc m.p ++ ntc m.q
abbrev wI (x : Ip) : Prop := w64 x.k ∧ wN x.n ∧ (x.a < 9223372036854775808) ∧ wV x.p ∧ x.p.length ≤ 9223372036854775807
abbrev wM (m : Mv) : Prop := w64 m.r ∧ w64 m.i ∧ w64 m.o ∧ w64 m.s ∧ wI m.x ∧ wI m.y ∧ wN m.p ∧ wN m.q
def okI (r : Int) (x : Ip) (v : Int) : Bool := decide (x.n.2.1 = twoH x.k 2) && (decide (x.n.1 = 0) || decide (climbH x.p (nonneg x.a) (mrkH x.n) = r)) && decide (v < 4294967296)
def rightH (m : Mv) : Bool := okI m.r m.x m.p.1 && okI m.r m.y m.q.1 && decide (rAdd (rAdd m.i m.x.n.1) m.y.n.1 = rAdd (rAdd m.o m.p.1) m.q.1)
set_option maxHeartbeats 8000000 in
theorem obolref18_Right_c {m : Mv} (hm : wM m) (hp : m.x.p.length < 1000000000 ∧ m.y.p.length < 1000000000) : Fn Tryz.prog 24 [.agg (mvc m)] [] (fun r _ => r = bo (rightH m)) := by
  obtain ⟨mr, mi, mo, ms, ⟨xk, ⟨xv, xo, xr⟩, xa, xp⟩, ⟨yk, ⟨yv, yo, yr⟩, ya, yp⟩, ⟨pv, po, pr⟩, ⟨qv, qo, qr⟩⟩ := m
  obtain ⟨w1, w2, w3, w4, ⟨x1, ⟨x2, x3, x4⟩, x5, x6, x7⟩, ⟨y1, ⟨y2, y3, y4⟩, y5, y6, y7⟩, ⟨p1, p2, p3⟩, ⟨q1, q2, q3⟩⟩ := hm
  simp only at w1 w2 w3 w4 x1 x2 x3 x4 x5 x6 x7 y1 y2 y3 y4 y5 y6 y7 p1 p2 p3 q1 q2 q3 hp
  have mx : w64 (mrkH (xv, xo, xr)) := (manyH_l _).w
  have my : w64 (mrkH (yv, yo, yr)) := (manyH_l _).w
  have cmx := obolref17_Mark_c (n := (xv, xo, xr)) ⟨x2, x3, x4⟩
  have cmy := obolref17_Mark_c (n := (yv, yo, yr)) ⟨y2, y3, y4⟩
  have ccx := obolref16_Climb_c (n := xa) mx x5 x6 hp.1
  have ccy := obolref16_Climb_c (n := ya) my y5 y6 hp.2
  unfold rightH okI
  simp only
  generalize mrkH (xv, xo, xr) = MX at *
  generalize mrkH (yv, yo, yr) = MY at *
  generalize climbH xp (nonneg xa) MX = CX at *
  generalize climbH yp (nonneg ya) MY = CY at *
  have n0 : Int.toNat 0 = 0 := rfl
  have n1 : Int.toNat 1 = 1 := rfl
  have q0 : (0:Int) ≤ 0 := by decide
  have q1' : (0:Int) ≤ 1 := by decide
  have x02 : (0:Int) < ((2:Nat):Int) := by decide
  have x12 : (1:Int) < ((2:Nat):Int) := by decide
  have a1 : IntKind.i64.wrap (0 + 1) = 1 := by decide
  have a2 : IntKind.i64.wrap (1 + 1) = 2 := by decide
  have i02 : decide ((0:Int) < 2) = true := rfl
  have i12 : decide ((1:Int) < 2) = true := rfl
  have i22 : decide ((2:Int) < 2) = false := rfl
  show Fn Tryz.prog 24 [.agg [u mr, u mi, u mo, u ms, u xk, u xv, u xo, u xr, i xa, ul xp, u yk, u yv, u yo, u yr, i ya, ul yp, u pv, u po, u pr, u qv, u qo, u qr]] [] _
  refine Fn.enter Tryz.func24 Tryz.ntmps24 rfl (h := ?_)
  have tf := tfv
  have ot_ : (false || true) = true := rfl
  repeat refine AW.seq ?_
  refine AW.reg ?_
  iterate 2 refine AOL.s1 (h := ?_)
  refine AOL.nil ?_
  refine AW.kq [1] (h := ?_)
  repeat refine AW.seq ?_
  refine AW.reg ?_
  iterate 3 refine AOL.s1 (h := ?_)
  refine AOL.nil ?_
  refine AW.kq [1, 3] (h := ?_)
  repeat refine AW.seq ?_
  refine AW.reg ?_
  iterate 3 refine AOL.s1 (h := ?_)
  refine AOL.nil ?_
  refine AW.kq [1, 3, 4] (h := ?_)
  repeat refine AW.seq ?_
  refine AW.reg ?_
  iterate 1 refine AOL.s1 (h := ?_)
  refine AOL.nil ?_
  refine AW.kq [1, 3, 4, 5] (h := ?_)
  repeat refine AW.seq ?_
  refine AW.block ?_
  repeat refine AW.seq ?_
  refine AW.rounds ?_
  refine AWin.next [1, 3, 4, 5] (h := ?_)
  repeat refine AW.seq ?_
  refine AW.reg ?_
  iterate 2 refine AOL.s1 (h := ?_)
  refine AOL.nil ?_
  refine AW.kq [1, 3, 4, 5, 12] (h := ?_)
  repeat refine AW.seq ?_
  refine AW.cond rfl (fun c_ => ?_) (fun c_ => ?_)
  rotate_left
  · cases c_
  refine AW.skip ?_
  repeat refine AW.seq ?_
  refine AW.block ?_
  repeat refine AW.seq ?_
  refine AW.reg ?_
  iterate 6 refine AOL.s1 (h := ?_)
  refine AOL.nil ?_
  refine AW.kq [1, 3, 4, 5, 6] (h := ?_)
  repeat refine AW.seq ?_
  refine AW.drw 6 [] (by kernel_rfl) (h := ?_)
  iterate 5 refine ADL.dm 1 (h := ?_)
  refine ADL.call rfl (obolref10_Two_c (b := 2) x1 (by decide)) (by kernel_rfl) rfl rfl (h := ?_)
  refine ADL.done hmix rfl rfl (hT := ?_)
  iterate 1 refine AOL.s1 (h := ?_)
  refine AOL.nil ?_
  refine AW.kq [1, 3, 4, 5, 6, 25] (h := ?_)
  repeat refine AW.seq ?_
  refine AW.cond rfl (fun d0 => ?_) (fun d0 => ?_)
  · have d_ : ¬ xo = twoH xk 2 := by simpa using d0
    repeat refine AW.seq ?_
    refine AW.reg ?_
    iterate 1 refine AOL.s1 (h := ?_)
    refine AOL.nil ?_
    refine AW.kq [2] (h := ?_)
    repeat refine AW.seq ?_
    refine AW.ret ?_
    refine ⟨_, [], rfl, HOk.nil _, ?_⟩
    simp only [one?, decide_eq_false d_, Bool.false_and, Bool.and_false]
  obtain rfl : xo = twoH xk 2 := by simpa using d0
  clear d0
  refine AW.skip ?_
  repeat refine AW.seq ?_
  refine AW.midK [1, 3, 4, 5, 6, 42] (fun t => t = ⟨64, [(1, .ptr 1016 0), (3, u mi), (4, u mo), (5, i 0), (6, .ptr 1096 0), (42, bo (xv != 0 && CX != mr))], [(1016, ⟨31, true, [u mr, u mi, u mo, u ms, u xk, u xv, u (twoH xk 2), u xr, i xa, ul xp, u yk, u yv, u yo, u yr, i ya, ul yp, u pv, u po, u pr, u qv, u qo, u qr]⟩), (1096, ⟨27, true, [u xk, u xv, u (twoH xk 2), u xr, i xa, ul xp]⟩)]⟩) ?_ ?_
  · cases g_ : (xv != 0) with
    | false =>
      refine AW.drw 15 [] (by kernel_rfl) (h := ?_)
      iterate 15 refine ADL.dm 1 (h := ?_)
      refine ADL.done hmix rfl rfl (hT := ?_)
      iterate 2 refine AOL.s1 (h := ?_)
      refine AOL.nil ?_
      exact rfl
    | true =>
      refine AW.drw 15 [] (by kernel_rfl) (h := ?_)
      iterate 7 refine ADL.dm 1 (h := ?_)
      refine ADL.call rfl (cmx) (by kernel_rfl) rfl rfl (h := ?_)
      iterate 4 refine ADL.dm 1 (h := ?_)
      refine ADL.call rfl (ccx) (by kernel_rfl) rfl rfl (h := ?_)
      iterate 2 refine ADL.dm 1 (h := ?_)
      refine ADL.done hmix rfl rfl (hT := ?_)
      iterate 2 refine AOL.s1 (h := ?_)
      refine AOL.nil ?_
      exact rfl
  rintro t rfl
  repeat refine AW.seq ?_
  refine AW.cond rfl (fun f0 => ?_) (fun f0 => ?_)
  · have f_ : ¬ xv = 0 ∧ ¬ CX = mr := by simpa using f0
    repeat refine AW.seq ?_
    refine AW.reg ?_
    iterate 1 refine AOL.s1 (h := ?_)
    refine AOL.nil ?_
    refine AW.kq [2] (h := ?_)
    repeat refine AW.seq ?_
    refine AW.ret ?_
    refine ⟨_, [], rfl, HOk.nil _, ?_⟩
    simp only [one?, decide_eq_false f_.1, decide_eq_false f_.2, Bool.false_and, Bool.and_false, Bool.or_false]
  have g0 : (decide (xv = 0) || decide (CX = mr)) = true := by simp at f0; simp; omega
  clear f0
  refine AW.skip ?_
  repeat refine AW.seq ?_
  refine AW.reg ?_
  iterate 6 refine AOL.s1 (h := ?_)
  refine AOL.nil ?_
  refine AW.kq [1, 3, 4, 5, 6, 48] (h := ?_)
  repeat refine AW.seq ?_
  refine AW.cond rfl (fun h0 => ?_) (fun h0 => ?_)
  · have h_ : ¬ pv < 4294967296 := by simp at h0; omega
    repeat refine AW.seq ?_
    refine AW.reg ?_
    iterate 1 refine AOL.s1 (h := ?_)
    refine AOL.nil ?_
    refine AW.kq [2] (h := ?_)
    repeat refine AW.seq ?_
    refine AW.ret ?_
    refine ⟨_, [], rfl, HOk.nil _, ?_⟩
    simp only [one?, decide_eq_false h_, Bool.false_and, Bool.and_false]
  have k0 : pv < 4294967296 := by simp at h0; omega
  clear h0
  refine AW.skip ?_
  repeat refine AW.seq ?_
  refine AW.reg ?_
  iterate 4 refine AOL.s1 (h := ?_)
  refine AOL.callD rfl (obolref07_Plus_r w2 x2) (by kernel_rfl) rfl rfl (h := ?_)
  iterate 1 refine AOL.s1 (h := ?_)
  refine AOL.nil ?_
  refine AW.kq [1, 3, 4, 5] (h := ?_)
  repeat refine AW.seq ?_
  refine AW.reg ?_
  iterate 6 refine AOL.s1 (h := ?_)
  refine AOL.callD rfl (obolref07_Plus_r w3 p1) (by kernel_rfl) rfl rfl (h := ?_)
  iterate 1 refine AOL.s1 (h := ?_)
  refine AOL.nil ?_
  repeat refine AW.seq ?_
  refine AW.let 1096 (h := ?_)
  repeat refine AW.seq ?_
  refine AW.reg ?_
  iterate 3 refine AOL.s1 (h := ?_)
  refine AOL.nil ?_
  refine AWin.next [1, 3, 4, 5] (h := ?_)
  repeat refine AW.seq ?_
  refine AW.reg ?_
  iterate 2 refine AOL.s1 (h := ?_)
  refine AOL.nil ?_
  refine AW.kq [1, 3, 4, 5, 12] (h := ?_)
  repeat refine AW.seq ?_
  refine AW.cond rfl (fun c_ => ?_) (fun c_ => ?_)
  rotate_left
  · cases c_
  refine AW.skip ?_
  repeat refine AW.seq ?_
  refine AW.block ?_
  repeat refine AW.seq ?_
  refine AW.reg ?_
  iterate 6 refine AOL.s1 (h := ?_)
  refine AOL.nil ?_
  refine AW.kq [1, 3, 4, 5, 6] (h := ?_)
  repeat refine AW.seq ?_
  refine AW.drw 6 [] (by kernel_rfl) (h := ?_)
  iterate 5 refine ADL.dm 1 (h := ?_)
  refine ADL.call rfl (obolref10_Two_c (b := 2) y1 (by decide)) (by kernel_rfl) rfl rfl (h := ?_)
  refine ADL.done hmix rfl rfl (hT := ?_)
  iterate 1 refine AOL.s1 (h := ?_)
  refine AOL.nil ?_
  refine AW.kq [1, 3, 4, 5, 6, 25] (h := ?_)
  repeat refine AW.seq ?_
  refine AW.cond rfl (fun d1 => ?_) (fun d1 => ?_)
  · have d_ : ¬ yo = twoH yk 2 := by simpa using d1
    repeat refine AW.seq ?_
    refine AW.reg ?_
    iterate 1 refine AOL.s1 (h := ?_)
    refine AOL.nil ?_
    refine AW.kq [2] (h := ?_)
    repeat refine AW.seq ?_
    refine AW.ret ?_
    refine ⟨_, [], rfl, HOk.nil _, ?_⟩
    simp only [one?, decide_eq_false d_, Bool.false_and, Bool.and_false]
  obtain rfl : yo = twoH yk 2 := by simpa using d1
  clear d1
  refine AW.skip ?_
  repeat refine AW.seq ?_
  refine AW.midK [1, 3, 4, 5, 6, 42] (fun t => t = ⟨64, [(1, .ptr 1016 0), (3, u (rAdd mi xv)), (4, u (rAdd mo pv)), (5, i 1), (6, .ptr 1096 0), (42, bo (yv != 0 && CY != mr))], [(1016, ⟨31, true, [u mr, u mi, u mo, u ms, u xk, u xv, u (twoH xk 2), u xr, i xa, ul xp, u yk, u yv, u (twoH yk 2), u yr, i ya, ul yp, u pv, u po, u pr, u qv, u qo, u qr]⟩), (1096, ⟨27, true, [u yk, u yv, u (twoH yk 2), u yr, i ya, ul yp]⟩)]⟩) ?_ ?_
  · cases g_ : (yv != 0) with
    | false =>
      refine AW.drw 15 [] (by kernel_rfl) (h := ?_)
      iterate 15 refine ADL.dm 1 (h := ?_)
      refine ADL.done hmix rfl rfl (hT := ?_)
      iterate 2 refine AOL.s1 (h := ?_)
      refine AOL.nil ?_
      exact rfl
    | true =>
      refine AW.drw 15 [] (by kernel_rfl) (h := ?_)
      iterate 7 refine ADL.dm 1 (h := ?_)
      refine ADL.call rfl (cmy) (by kernel_rfl) rfl rfl (h := ?_)
      iterate 4 refine ADL.dm 1 (h := ?_)
      refine ADL.call rfl (ccy) (by kernel_rfl) rfl rfl (h := ?_)
      iterate 2 refine ADL.dm 1 (h := ?_)
      refine ADL.done hmix rfl rfl (hT := ?_)
      iterate 2 refine AOL.s1 (h := ?_)
      refine AOL.nil ?_
      exact rfl
  rintro t rfl
  repeat refine AW.seq ?_
  refine AW.cond rfl (fun f1 => ?_) (fun f1 => ?_)
  · have f_ : ¬ yv = 0 ∧ ¬ CY = mr := by simpa using f1
    repeat refine AW.seq ?_
    refine AW.reg ?_
    iterate 1 refine AOL.s1 (h := ?_)
    refine AOL.nil ?_
    refine AW.kq [2] (h := ?_)
    repeat refine AW.seq ?_
    refine AW.ret ?_
    refine ⟨_, [], rfl, HOk.nil _, ?_⟩
    simp only [one?, decide_eq_false f_.1, decide_eq_false f_.2, Bool.false_and, Bool.and_false, Bool.or_false]
  have g1 : (decide (yv = 0) || decide (CY = mr)) = true := by simp at f1; simp; omega
  clear f1
  refine AW.skip ?_
  repeat refine AW.seq ?_
  refine AW.reg ?_
  iterate 6 refine AOL.s1 (h := ?_)
  refine AOL.nil ?_
  refine AW.kq [1, 3, 4, 5, 6, 48] (h := ?_)
  repeat refine AW.seq ?_
  refine AW.cond rfl (fun h1 => ?_) (fun h1 => ?_)
  · have h_ : ¬ qv < 4294967296 := by simp at h1; omega
    repeat refine AW.seq ?_
    refine AW.reg ?_
    iterate 1 refine AOL.s1 (h := ?_)
    refine AOL.nil ?_
    refine AW.kq [2] (h := ?_)
    repeat refine AW.seq ?_
    refine AW.ret ?_
    refine ⟨_, [], rfl, HOk.nil _, ?_⟩
    simp only [one?, decide_eq_false h_, Bool.false_and, Bool.and_false]
  have k1 : qv < 4294967296 := by simp at h1; omega
  clear h1
  refine AW.skip ?_
  repeat refine AW.seq ?_
  refine AW.reg ?_
  iterate 4 refine AOL.s1 (h := ?_)
  refine AOL.callD rfl (obolref07_Plus_r (rAdd_l _ _).w y2) (by kernel_rfl) rfl rfl (h := ?_)
  iterate 1 refine AOL.s1 (h := ?_)
  refine AOL.nil ?_
  refine AW.kq [1, 3, 4, 5] (h := ?_)
  repeat refine AW.seq ?_
  refine AW.reg ?_
  iterate 6 refine AOL.s1 (h := ?_)
  refine AOL.callD rfl (obolref07_Plus_r (rAdd_l _ _).w q1) (by kernel_rfl) rfl rfl (h := ?_)
  iterate 1 refine AOL.s1 (h := ?_)
  refine AOL.nil ?_
  repeat refine AW.seq ?_
  refine AW.let 1096 (h := ?_)
  repeat refine AW.seq ?_
  refine AW.reg ?_
  iterate 3 refine AOL.s1 (h := ?_)
  refine AOL.nil ?_
  refine AWin.next [1, 3, 4, 5] (h := ?_)
  repeat refine AW.seq ?_
  refine AW.reg ?_
  iterate 2 refine AOL.s1 (h := ?_)
  refine AOL.nil ?_
  refine AW.kq [1, 3, 4, 5, 12] (h := ?_)
  repeat refine AW.seq ?_
  refine AW.cond rfl (fun c_ => ?_) (fun c_ => ?_)
  · cases c_
  repeat refine AW.seq ?_
  refine AW.exit ?_
  repeat (first | refine Kseq.ex ?_ | refine Kloop.ex ?_ | refine Kblock.miss (by decide) ?_)
  refine Kblock.hit ?_
  refine AW.kq [3, 4] (h := ?_)
  repeat refine AW.seq ?_
  refine AW.reg ?_
  iterate 4 refine AOL.s1 (h := ?_)
  refine AOL.nil ?_
  refine AW.kq [2] (h := ?_)
  repeat refine AW.seq ?_
  refine AW.ret ?_
  refine ⟨_, [], rfl, HOk.nil _, ?_⟩
  simp only [one?, decide_true, g0, g1, decide_eq_true k0, decide_eq_true k1, Bool.true_and]
  rfl
theorem shl_k {k l : Nat} (hl : l ≤ 16) (h : (k + 1) * 2 ^ l ≤ 1099511627776) : IntKind.i64.wrap ((k:Int) * 2 ^ min l IntKind.i64.bits) = ((k * 2 ^ l : Nat) : Int) := by
  have eb : IntKind.i64.bits = 64 := rfl
  have e : min l IntKind.i64.bits = l := by rw [eb]; omega
  rw [e]
  have h2 : (k + 1) * 2 ^ l = k * 2 ^ l + 2 ^ l := by rw [Nat.add_mul, Nat.one_mul]
  have h3 : (k:Int) * 2 ^ l = ((k * 2 ^ l : Nat) : Int) := by simp
  have p0 : 0 < 2 ^ l := Nat.pow_pos (by decide)
  rw [h3, wrapI_o (Int.natCast_nonneg _) (by omega)]
def bw (n : Int) : Bool := decide (n < 288230376287764481)
def hdF (d r i o s : Int) : Bool := decide (1 ≤ d ∧ d ≤ 16) && bw r && bw i && bw o && bw s
def inF (x : Ip) (d : Int) : Bool := decide ((x.p.length : Int) = d) && decide (0 ≤ x.a) && decide (x.a < 2 ^ d.toNat) && bw x.k && bw x.n.1 && bw x.n.2.1 && bw x.n.2.2
def outF (n : Int × Int × Int) : Bool := bw n.1 && bw n.2.1 && bw n.2.2
def fitsH (m : Mv) (d : Int) : Bool := hdF d m.r m.i m.o m.s && (inF m.x d && m.x.p.all bw && outF m.p) && (inF m.y d && m.y.p.all bw && outF m.q)
set_option maxHeartbeats 16000000 in
theorem obolref18_Fits_c {m : Mv} {d : Int} (hm : wM m) : Fn Tryz.prog 8 [.agg (mvc m), i d] [] (fun r _ => r = bo (fitsH m d)) := by
  obtain ⟨mr, mi, mo, ms, ⟨xk, ⟨xv, xo, xr⟩, xa, xp⟩, ⟨yk, ⟨yv, yo, yr⟩, ya, yp⟩, ⟨pv, po, pr⟩, ⟨qv, qo, qr⟩⟩ := m
  obtain ⟨w1, w2, w3, w4, ⟨x1, ⟨x2, x3, x4⟩, x5, x6, x7⟩, ⟨y1, ⟨y2, y3, y4⟩, y5, y6, y7⟩, ⟨p1, p2, p3⟩, ⟨q1, q2, q3⟩⟩ := hm
  simp only at w1 w2 w3 w4 x1 x2 x3 x4 x5 x6 x7 y1 y2 y3 y4 y5 y6 y7 p1 p2 p3 q1 q2 q3
  unfold fitsH
  simp only
  have n0 : Int.toNat 0 = 0 := rfl
  have n1 : Int.toNat 1 = 1 := rfl
  have q0 : (0:Int) ≤ 0 := by decide
  have q1' : (0:Int) ≤ 1 := by decide
  have x02 : (0:Int) < ((2:Nat):Int) := by decide
  have x12 : (1:Int) < ((2:Nat):Int) := by decide
  have a1 : IntKind.i64.wrap (0 + 1) = 1 := by decide
  have a2 : IntKind.i64.wrap (1 + 1) = 2 := by decide
  have i02 : decide ((0:Int) < 2) = true := rfl
  have i12 : decide ((1:Int) < 2) = true := rfl
  have i22 : decide ((2:Int) < 2) = false := rfl
  show Fn Tryz.prog 8 [.agg [u mr, u mi, u mo, u ms, u xk, u xv, u xo, u xr, i xa, ul xp, u yk, u yv, u yo, u yr, i ya, ul yp, u pv, u po, u pr, u qv, u qo, u qr], i d] [] _
  refine Fn.enter Tryz.func8 Tryz.ntmps8 rfl (h := ?_)
  have tf := tfv
  have ot_ : (false || true) = true := rfl
  repeat refine AW.seq ?_
  refine AW.reg ?_
  iterate 2 refine AOL.s1 (h := ?_)
  refine AOL.nil ?_
  refine AW.kq [1, 2] (h := ?_)
  repeat refine AW.seq ?_
  refine AW.reg ?_
  iterate 3 refine AOL.s1 (h := ?_)
  refine AOL.kq [1, 2, 12] (h := ?_)
  refine AOL.or 12 15 (os' := ?_) (x := ?_) (h1 := ?_) (h0 := ?_) (h := ?_)
  rotate_left 2
  iterate 2
    · intro hb_ K' hK; (iterate 3 refine AOL.s1 (h := ?_)); refine AOL.kq [1, 2, 15] (h := ?_); exact hK
  iterate 1 refine AOL.s1 (h := ?_)
  refine AOL.kq [1, 2, 16] (h := ?_)
  refine AOL.or 16 21 (os' := ?_) (x := ?_) (h1 := ?_) (h0 := ?_) (h := ?_)
  rotate_left 2
  iterate 2
    · intro hb_ K' hK; (first | (iterate 5 refine AOL.s1 (h := ?_)) | ((iterate 2 refine AOL.s1 (h := ?_)); refine AOL.callD rfl (obolref18_below_c w1) (by kernel_rfl) rfl rfl (h := ?_); (iterate 2 refine AOL.s1 (h := ?_)))); refine AOL.kq [1, 2, 21] (h := ?_); exact hK
  iterate 1 refine AOL.s1 (h := ?_)
  refine AOL.kq [1, 2, 22] (h := ?_)
  refine AOL.or 22 27 (os' := ?_) (x := ?_) (h1 := ?_) (h0 := ?_) (h := ?_)
  rotate_left 2
  iterate 2
    · intro hb_ K' hK; (first | (iterate 5 refine AOL.s1 (h := ?_)) | ((iterate 2 refine AOL.s1 (h := ?_)); refine AOL.callD rfl (obolref18_below_c w2) (by kernel_rfl) rfl rfl (h := ?_); (iterate 2 refine AOL.s1 (h := ?_)))); refine AOL.kq [1, 2, 27] (h := ?_); exact hK
  iterate 1 refine AOL.s1 (h := ?_)
  refine AOL.kq [1, 2, 28] (h := ?_)
  refine AOL.or 28 33 (os' := ?_) (x := ?_) (h1 := ?_) (h0 := ?_) (h := ?_)
  rotate_left 2
  iterate 2
    · intro hb_ K' hK; (first | (iterate 5 refine AOL.s1 (h := ?_)) | ((iterate 2 refine AOL.s1 (h := ?_)); refine AOL.callD rfl (obolref18_below_c w3) (by kernel_rfl) rfl rfl (h := ?_); (iterate 2 refine AOL.s1 (h := ?_)))); refine AOL.kq [1, 2, 33] (h := ?_); exact hK
  iterate 1 refine AOL.s1 (h := ?_)
  refine AOL.kq [1, 2, 34] (h := ?_)
  refine AOL.or 34 39 (os' := ?_) (x := ?_) (h1 := ?_) (h0 := ?_) (h := ?_)
  rotate_left 2
  iterate 2
    · intro hb_ K' hK; (first | (iterate 5 refine AOL.s1 (h := ?_)) | ((iterate 2 refine AOL.s1 (h := ?_)); refine AOL.callD rfl (obolref18_below_c w4) (by kernel_rfl) rfl rfl (h := ?_); (iterate 2 refine AOL.s1 (h := ?_)))); refine AOL.kq [1, 2, 39] (h := ?_); exact hK
  refine AOL.nil ?_
  refine AW.kq [1, 2, 39] (h := ?_)
  repeat refine AW.seq ?_
  refine AW.cond rfl (fun c0 => ?_) (fun c0 => ?_)
  · have e : hdF d mr mi mo ms = false := Bool.eq_false_iff.2 (by intro h; simp [hdF, bw] at h; simp at c0; omega)
    rw [e]
    repeat refine AW.seq ?_
    refine AW.reg ?_
    iterate 1 refine AOL.s1 (h := ?_)
    refine AOL.nil ?_
    refine AW.kq [4] (h := ?_)
    repeat refine AW.seq ?_
    refine AW.ret ?_
    refine ⟨_, [], rfl, HOk.nil _, ?_⟩
    rfl
  have e0 : hdF d mr mi mo ms = true := by simp [hdF, bw]; simp at c0; omega
  rw [e0]
  obtain ⟨dn, rfl⟩ : ∃ n : Nat, d = n := ⟨d.toNat, by simp at c0; omega⟩
  have hd1 : 1 ≤ dn ∧ dn ≤ 16 := by simp at c0; omega
  clear c0 e0
  have s1 := shl_k (k := 1) (l := dn) (by omega) (by
    have : 2 ^ dn ≤ 2 ^ 16 := Nat.pow_le_pow_right (by decide) (by omega)
    omega)
  have s2 : ((1:Nat):Int) = 1 := rfl
  rw [s2] at s1
  have s0 : ¬ (dn:Int) < 0 := by omega
  have s3 : ((1 * 2 ^ dn : Nat) : Int) = 2 ^ dn := by rw [Nat.one_mul]; simp
  rw [s3] at s1
  clear s2 s3
  refine AW.skip ?_
  repeat refine AW.seq ?_
  refine AW.reg ?_
  iterate 1 refine AOL.s1 (h := ?_)
  refine AOL.nil ?_
  refine AW.kq [1, 2, 5] (h := ?_)
  repeat refine AW.seq ?_
  refine AW.block ?_
  repeat refine AW.seq ?_
  refine AW.rounds ?_
  refine AWin.next [1, 2, 5] (h := ?_)
  repeat refine AW.seq ?_
  refine AW.reg ?_
  iterate 2 refine AOL.s1 (h := ?_)
  refine AOL.nil ?_
  refine AW.kq [1, 2, 5, 41] (h := ?_)
  repeat refine AW.seq ?_
  refine AW.cond rfl (fun c_ => ?_) (fun c_ => ?_)
  rotate_left
  · cases c_
  refine AW.skip ?_
  repeat refine AW.seq ?_
  refine AW.block ?_
  repeat refine AW.seq ?_
  refine AW.reg ?_
  iterate 6 refine AOL.s1 (h := ?_)
  refine AOL.nil ?_
  refine AW.kq [1, 2, 5, 6] (h := ?_)
  repeat refine AW.seq ?_
  refine AW.midK [1, 2, 5, 6, 91] (fun t => ∃ b : Bool, t = ⟨125, [(1, i dn), (2, .ptr 1032 0), (5, i 0), (6, .ptr 1096 0), (91, bo b)], [(1032, ⟨31, true, [u mr, u mi, u mo, u ms, u xk, u xv, u xo, u xr, i xa, ul xp, u yk, u yv, u yo, u yr, i ya, ul yp, u pv, u po, u pr, u qv, u qo, u qr]⟩), (1096, ⟨27, true, [u xk, u xv, u xo, u xr, i xa, ul xp]⟩)]⟩ ∧ b = !inF ⟨xk, (xv, xo, xr), xa, xp⟩ dn) ?_ ?_
  · cases g1 : ((xp.length : Int) != dn) with
    | true =>
      refine AW.drw 15 [] (by kernel_rfl) (h := ?_)
      iterate 15 refine ADL.dm 1 (h := ?_)
      refine ADL.done hmix rfl rfl (hT := ?_)
      iterate 29 refine AOL.s1 (h := ?_)
      refine AOL.nil ?_
      exact ⟨_, rfl, by rw [show inF ⟨xk, (xv, xo, xr), xa, xp⟩ dn = false from Bool.eq_false_iff.2 (by intro h; simp only [inF, Bool.and_eq_true, decide_eq_true_eq] at h; simp at g1; omega)]; rfl⟩
    | false =>
      cases g2 : decide (xa < 0) with
      | true =>
        refine AW.drw 15 [] (by kernel_rfl) (h := ?_)
        iterate 15 refine ADL.dm 1 (h := ?_)
        refine ADL.done hmix rfl rfl (hT := ?_)
        iterate 29 refine AOL.s1 (h := ?_)
        refine AOL.nil ?_
        exact ⟨_, rfl, by rw [show inF ⟨xk, (xv, xo, xr), xa, xp⟩ dn = false from Bool.eq_false_iff.2 (by intro h; simp only [inF, Bool.and_eq_true, decide_eq_true_eq] at h; simp at g2; omega)]; rfl⟩
      | false =>
        refine AW.drw 15 [] (by kernel_rfl) (h := ?_)
        iterate 15 refine ADL.dm 1 (h := ?_)
        refine ADL.done hmix rfl rfl (hT := ?_)
        refine AOL.kq [1, 2, 5, 6, 58, 60, 62] (h := ?_)
        iterate 2 refine AOL.s1 (h := ?_)
        iterate 1 refine AOL.s1 (h := ?_)
        refine AOL.kq [1, 2, 5, 6, 65] (h := ?_)
        refine AOL.or 65 70 (os' := ?_) (x := ?_) (h1 := ?_) (h0 := ?_) (h := ?_)
        rotate_left 2
        iterate 2
          · intro hb_ K' hK; (first | (iterate 5 refine AOL.s1 (h := ?_)) | ((iterate 2 refine AOL.s1 (h := ?_)); refine AOL.callD rfl (obolref18_below_c x1) (by kernel_rfl) rfl rfl (h := ?_); (iterate 2 refine AOL.s1 (h := ?_)))); refine AOL.kq [1, 2, 5, 6, 70] (h := ?_); exact hK
        iterate 1 refine AOL.s1 (h := ?_)
        refine AOL.kq [1, 2, 5, 6, 71] (h := ?_)
        refine AOL.or 71 77 (os' := ?_) (x := ?_) (h1 := ?_) (h0 := ?_) (h := ?_)
        rotate_left 2
        iterate 2
          · intro hb_ K' hK; (first | (iterate 6 refine AOL.s1 (h := ?_)) | ((iterate 3 refine AOL.s1 (h := ?_)); refine AOL.callD rfl (obolref18_below_c x2) (by kernel_rfl) rfl rfl (h := ?_); (iterate 2 refine AOL.s1 (h := ?_)))); refine AOL.kq [1, 2, 5, 6, 77] (h := ?_); exact hK
        iterate 1 refine AOL.s1 (h := ?_)
        refine AOL.kq [1, 2, 5, 6, 78] (h := ?_)
        refine AOL.or 78 84 (os' := ?_) (x := ?_) (h1 := ?_) (h0 := ?_) (h := ?_)
        rotate_left 2
        iterate 2
          · intro hb_ K' hK; (first | (iterate 6 refine AOL.s1 (h := ?_)) | ((iterate 3 refine AOL.s1 (h := ?_)); refine AOL.callD rfl (obolref18_below_c x3) (by kernel_rfl) rfl rfl (h := ?_); (iterate 2 refine AOL.s1 (h := ?_)))); refine AOL.kq [1, 2, 5, 6, 84] (h := ?_); exact hK
        iterate 1 refine AOL.s1 (h := ?_)
        refine AOL.kq [1, 2, 5, 6, 85] (h := ?_)
        refine AOL.or 85 91 (os' := ?_) (x := ?_) (h1 := ?_) (h0 := ?_) (h := ?_)
        rotate_left 2
        iterate 2
          · intro hb_ K' hK; (first | (iterate 6 refine AOL.s1 (h := ?_)) | ((iterate 3 refine AOL.s1 (h := ?_)); refine AOL.callD rfl (obolref18_below_c x4) (by kernel_rfl) rfl rfl (h := ?_); (iterate 2 refine AOL.s1 (h := ?_)))); refine AOL.kq [1, 2, 5, 6, 91] (h := ?_); exact hK
        refine AOL.nil ?_
        have h1 : decide ((xp.length : Int) = dn) = true := by simpa using g1
        have h2 : decide (0 ≤ xa) = true := by simpa using g2
        have h3 : decide (xa ≥ 2 ^ dn) = !decide (xa < 2 ^ dn) := by rw [← decide_not]; exact decide_eq_decide.2 (by omega)
        exact ⟨_, rfl, by simp only [inF, h1, h2, h3, Int.toNat_natCast, bw, Bool.true_and, Bool.not_and]⟩
  rintro t ⟨b_, rfl, hb⟩
  repeat refine AW.seq ?_
  refine AW.cond rfl (fun d0 => ?_) (fun d0 => ?_)
  · have e : inF ⟨xk, (xv, xo, xr), xa, xp⟩ dn = false := by rw [d0] at hb; simpa using hb.symm
    rw [e]
    repeat refine AW.seq ?_
    refine AW.reg ?_
    iterate 1 refine AOL.s1 (h := ?_)
    refine AOL.nil ?_
    refine AW.kq [4] (h := ?_)
    repeat refine AW.seq ?_
    refine AW.ret ?_
    refine ⟨_, [], rfl, HOk.nil _, ?_⟩
    simp only [one?, Bool.false_and, Bool.and_false]
  have e0 : inF ⟨xk, (xv, xo, xr), xa, xp⟩ dn = true := by rw [d0] at hb; simpa using hb.symm
  have l0 : xp.length ≤ dn ∧ dn ≤ xp.length := by simp [inF] at e0; omega
  rw [e0]
  clear d0 hb e0
  refine AW.skip ?_
  repeat refine AW.seq ?_
  refine AW.reg ?_
  iterate 1 refine AOL.s1 (h := ?_)
  refine AOL.nil ?_
  refine AW.kq [1, 2, 5, 6, 7] (h := ?_)
  repeat refine AW.seq ?_
  refine AW.block ?_
  repeat refine AW.seq ?_
  refine AW.loopK [1, 2, 5, 6, 7] (fun n s => ∃ (k : Nat) (r : List Int), s = ⟨125, [(1, i dn), (2, .ptr 1032 0), (5, i 0), (6, .ptr 1096 0), (7, i k)], [(1032, ⟨31, true, [u mr, u mi, u mo, u ms, u xk, u xv, u xo, u xr, i xa, ul xp, u yk, u yv, u yo, u yr, i ya, ul yp, u pv, u po, u pr, u qv, u qo, u qr]⟩), (1096, ⟨27, true, [u xk, u xv, u xo, u xr, i xa, ul xp]⟩)]⟩ ∧ xp.drop k = r ∧ k ≤ xp.length ∧ n = r.length ∧ r.all bw = xp.all bw) xp.length ?_ ?_
  · exact ⟨0, xp, rfl, rfl, Nat.zero_le _, rfl, rfl⟩
  rintro n s ⟨k, r, rfl, hr, hkl, rfl, hi⟩
  repeat refine AW.seq ?_
  refine AW.reg ?_
  iterate 3 refine AOL.s1 (h := ?_)
  refine AOL.nil ?_
  refine AW.kq [1, 2, 5, 6, 7, 94] (h := ?_)
  repeat refine AW.seq ?_
  refine AW.cond rfl (fun e_ => ?_) (fun e_ => ?_)
  · obtain ⟨t, r, rfl⟩ := ends_cons hr hkl (by simp at e_; omega)
    obtain ⟨hlt, hr', ht⟩ := dconsq hr
    have hw : IntKind.i64.wrap ((k:Int) + 1) = ((k + 1 : Nat) : Int) := by rw [wrapI_o (by omega) (by omega)]; rfl
    have k0 : (0:Int) ≤ k := by omega
    have k1 : (k:Int) < dn := by omega
    have k1' : (k:Int) < xp.length := by omega
    have hz1 : (fm u1 xp).drop (k * 1) = u t :: fm u1 r := fm_drop u1_len hr
    have hz : (fm u1 xp).drop k = u t :: fm u1 r := by simpa using hz1
    have wt : w64 t := x6 t (List.mem_of_getElem? ht)
    clear hz1
    refine AW.skip ?_
    repeat refine AW.seq ?_
    refine AW.block ?_
    repeat refine AW.seq ?_
    refine AW.reg ?_
    iterate 5 refine AOL.s1 (h := ?_)
    refine AOL.callD rfl (obolref18_below_c wt) (by kernel_rfl) rfl rfl (h := ?_)
    iterate 1 refine AOL.s1 (h := ?_)
    refine AOL.nil ?_
    refine AW.kq [1, 2, 5, 6, 7, 8] (h := ?_)
    repeat refine AW.seq ?_
    refine AW.reg ?_
    iterate 2 refine AOL.s1 (h := ?_)
    refine AOL.nil ?_
    refine AW.kq [1, 2, 5, 6, 7, 104] (h := ?_)
    repeat refine AW.seq ?_
    refine AW.cond rfl (fun f_ => ?_) (fun f_ => ?_)
    · have g_ : bw t = false := by simpa [bw] using f_
      have h_ : xp.all bw = false := by rw [← hi, List.all_cons, g_, Bool.false_and]
      rw [h_]
      repeat refine AW.seq ?_
      refine AW.reg ?_
      iterate 1 refine AOL.s1 (h := ?_)
      refine AOL.nil ?_
      refine AW.kq [4] (h := ?_)
      repeat refine AW.seq ?_
      refine AW.ret ?_
      refine ⟨_, [], rfl, HOk.nil _, ?_⟩
      simp only [one?, Bool.false_and, Bool.and_false]
    have g_ : bw t = true := by simpa [bw] using f_
    have hi : r.all bw = xp.all bw := by rw [← hi, List.all_cons, g_, Bool.true_and]
    clear f_
    refine AW.skip ?_
    repeat refine AW.seq ?_
    refine AW.reg ?_
    iterate 3 refine AOL.s1 (h := ?_)
    refine AOL.nil ?_
    exact ⟨r.length, by simp, k + 1, r, rfl, hr', hlt, rfl, hi⟩
  obtain rfl := ends_nil hr (by simp at e_; omega)
  have hi : xp.all bw = true := hi.symm
  rw [hi]
  clear hi hr hkl e_
  repeat refine AW.seq ?_
  refine AW.exit ?_
  repeat (first | refine Kseq.ex ?_ | refine Kloop.ex ?_ | refine Kblock.miss (by decide) ?_)
  refine Kblock.hit ?_
  refine AW.kq [1, 2, 5] (h := ?_)
  repeat refine AW.seq ?_
  refine AW.reg ?_
  iterate 6 refine AOL.s1 (h := ?_)
  refine AOL.nil ?_
  refine AW.kq [1, 2, 5, 9] (h := ?_)
  repeat refine AW.seq ?_
  refine AW.reg ?_
  iterate 2 refine AOL.s1 (h := ?_)
  refine AOL.callD rfl (obolref18_below_c p1) (by kernel_rfl) rfl rfl (h := ?_)
  iterate 2 refine AOL.s1 (h := ?_)
  refine AOL.kq [1, 2, 5, 9, 113] (h := ?_)
  refine AOL.or 113 118 (os' := ?_) (x := ?_) (h1 := ?_) (h0 := ?_) (h := ?_)
  rotate_left 2
  iterate 2
    · intro hb_ K' hK; (first | (iterate 5 refine AOL.s1 (h := ?_)) | ((iterate 2 refine AOL.s1 (h := ?_)); refine AOL.callD rfl (obolref18_below_c p2) (by kernel_rfl) rfl rfl (h := ?_); (iterate 2 refine AOL.s1 (h := ?_)))); refine AOL.kq [1, 2, 5, 9, 118] (h := ?_); exact hK
  iterate 1 refine AOL.s1 (h := ?_)
  refine AOL.kq [1, 2, 5, 9, 119] (h := ?_)
  refine AOL.or 119 124 (os' := ?_) (x := ?_) (h1 := ?_) (h0 := ?_) (h := ?_)
  rotate_left 2
  iterate 2
    · intro hb_ K' hK; (first | (iterate 5 refine AOL.s1 (h := ?_)) | ((iterate 2 refine AOL.s1 (h := ?_)); refine AOL.callD rfl (obolref18_below_c p3) (by kernel_rfl) rfl rfl (h := ?_); (iterate 2 refine AOL.s1 (h := ?_)))); refine AOL.kq [1, 2, 5, 9, 124] (h := ?_); exact hK
  refine AOL.nil ?_
  refine AW.kq [1, 2, 5, 124] (h := ?_)
  repeat refine AW.seq ?_
  refine AW.cond rfl (fun m0 => ?_) (fun m0 => ?_)
  · have e : outF (pv, po, pr) = false := Bool.eq_false_iff.2 (by intro h; simp only [outF, bw, Bool.and_eq_true, decide_eq_true_eq] at h; simp at m0; omega)
    rw [e]
    repeat refine AW.seq ?_
    refine AW.reg ?_
    iterate 1 refine AOL.s1 (h := ?_)
    refine AOL.nil ?_
    refine AW.kq [4] (h := ?_)
    repeat refine AW.seq ?_
    refine AW.ret ?_
    refine ⟨_, [], rfl, HOk.nil _, ?_⟩
    simp only [one?, Bool.false_and, Bool.and_false]
  have e : outF (pv, po, pr) = true := by simp only [outF, bw, Bool.and_eq_true, decide_eq_true_eq]; simp at m0; omega
  rw [e]
  clear m0 e
  refine AW.skip ?_
  repeat refine AW.seq ?_
  refine AW.let 1096 (h := ?_)
  refine AW.let 1144 (h := ?_)
  refine AW.reg ?_
  iterate 3 refine AOL.s1 (h := ?_)
  refine AOL.nil ?_
  refine AWin.next [1, 2, 5] (h := ?_)
  repeat refine AW.seq ?_
  refine AW.reg ?_
  iterate 2 refine AOL.s1 (h := ?_)
  refine AOL.nil ?_
  refine AW.kq [1, 2, 5, 41] (h := ?_)
  repeat refine AW.seq ?_
  refine AW.cond rfl (fun c_ => ?_) (fun c_ => ?_)
  rotate_left
  · cases c_
  refine AW.skip ?_
  repeat refine AW.seq ?_
  refine AW.block ?_
  repeat refine AW.seq ?_
  refine AW.reg ?_
  iterate 6 refine AOL.s1 (h := ?_)
  refine AOL.nil ?_
  refine AW.kq [1, 2, 5, 6] (h := ?_)
  repeat refine AW.seq ?_
  refine AW.midK [1, 2, 5, 6, 91] (fun t => ∃ b : Bool, t = ⟨125, [(1, i dn), (2, .ptr 1032 0), (5, i 1), (6, .ptr 1096 0), (91, bo b)], [(1032, ⟨31, true, [u mr, u mi, u mo, u ms, u xk, u xv, u xo, u xr, i xa, ul xp, u yk, u yv, u yo, u yr, i ya, ul yp, u pv, u po, u pr, u qv, u qo, u qr]⟩), (1096, ⟨27, true, [u yk, u yv, u yo, u yr, i ya, ul yp]⟩)]⟩ ∧ b = !inF ⟨yk, (yv, yo, yr), ya, yp⟩ dn) ?_ ?_
  · cases g1 : ((yp.length : Int) != dn) with
    | true =>
      refine AW.drw 15 [] (by kernel_rfl) (h := ?_)
      iterate 15 refine ADL.dm 1 (h := ?_)
      refine ADL.done hmix rfl rfl (hT := ?_)
      iterate 29 refine AOL.s1 (h := ?_)
      refine AOL.nil ?_
      exact ⟨_, rfl, by rw [show inF ⟨yk, (yv, yo, yr), ya, yp⟩ dn = false from Bool.eq_false_iff.2 (by intro h; simp only [inF, Bool.and_eq_true, decide_eq_true_eq] at h; simp at g1; omega)]; rfl⟩
    | false =>
      cases g2 : decide (ya < 0) with
      | true =>
        refine AW.drw 15 [] (by kernel_rfl) (h := ?_)
        iterate 15 refine ADL.dm 1 (h := ?_)
        refine ADL.done hmix rfl rfl (hT := ?_)
        iterate 29 refine AOL.s1 (h := ?_)
        refine AOL.nil ?_
        exact ⟨_, rfl, by rw [show inF ⟨yk, (yv, yo, yr), ya, yp⟩ dn = false from Bool.eq_false_iff.2 (by intro h; simp only [inF, Bool.and_eq_true, decide_eq_true_eq] at h; simp at g2; omega)]; rfl⟩
      | false =>
        refine AW.drw 15 [] (by kernel_rfl) (h := ?_)
        iterate 15 refine ADL.dm 1 (h := ?_)
        refine ADL.done hmix rfl rfl (hT := ?_)
        refine AOL.kq [1, 2, 5, 6, 58, 60, 62] (h := ?_)
        iterate 2 refine AOL.s1 (h := ?_)
        iterate 1 refine AOL.s1 (h := ?_)
        refine AOL.kq [1, 2, 5, 6, 65] (h := ?_)
        refine AOL.or 65 70 (os' := ?_) (x := ?_) (h1 := ?_) (h0 := ?_) (h := ?_)
        rotate_left 2
        iterate 2
          · intro hb_ K' hK; (first | (iterate 5 refine AOL.s1 (h := ?_)) | ((iterate 2 refine AOL.s1 (h := ?_)); refine AOL.callD rfl (obolref18_below_c y1) (by kernel_rfl) rfl rfl (h := ?_); (iterate 2 refine AOL.s1 (h := ?_)))); refine AOL.kq [1, 2, 5, 6, 70] (h := ?_); exact hK
        iterate 1 refine AOL.s1 (h := ?_)
        refine AOL.kq [1, 2, 5, 6, 71] (h := ?_)
        refine AOL.or 71 77 (os' := ?_) (x := ?_) (h1 := ?_) (h0 := ?_) (h := ?_)
        rotate_left 2
        iterate 2
          · intro hb_ K' hK; (first | (iterate 6 refine AOL.s1 (h := ?_)) | ((iterate 3 refine AOL.s1 (h := ?_)); refine AOL.callD rfl (obolref18_below_c y2) (by kernel_rfl) rfl rfl (h := ?_); (iterate 2 refine AOL.s1 (h := ?_)))); refine AOL.kq [1, 2, 5, 6, 77] (h := ?_); exact hK
        iterate 1 refine AOL.s1 (h := ?_)
        refine AOL.kq [1, 2, 5, 6, 78] (h := ?_)
        refine AOL.or 78 84 (os' := ?_) (x := ?_) (h1 := ?_) (h0 := ?_) (h := ?_)
        rotate_left 2
        iterate 2
          · intro hb_ K' hK; (first | (iterate 6 refine AOL.s1 (h := ?_)) | ((iterate 3 refine AOL.s1 (h := ?_)); refine AOL.callD rfl (obolref18_below_c y3) (by kernel_rfl) rfl rfl (h := ?_); (iterate 2 refine AOL.s1 (h := ?_)))); refine AOL.kq [1, 2, 5, 6, 84] (h := ?_); exact hK
        iterate 1 refine AOL.s1 (h := ?_)
        refine AOL.kq [1, 2, 5, 6, 85] (h := ?_)
        refine AOL.or 85 91 (os' := ?_) (x := ?_) (h1 := ?_) (h0 := ?_) (h := ?_)
        rotate_left 2
        iterate 2
          · intro hb_ K' hK; (first | (iterate 6 refine AOL.s1 (h := ?_)) | ((iterate 3 refine AOL.s1 (h := ?_)); refine AOL.callD rfl (obolref18_below_c y4) (by kernel_rfl) rfl rfl (h := ?_); (iterate 2 refine AOL.s1 (h := ?_)))); refine AOL.kq [1, 2, 5, 6, 91] (h := ?_); exact hK
        refine AOL.nil ?_
        have h1 : decide ((yp.length : Int) = dn) = true := by simpa using g1
        have h2 : decide (0 ≤ ya) = true := by simpa using g2
        have h3 : decide (ya ≥ 2 ^ dn) = !decide (ya < 2 ^ dn) := by rw [← decide_not]; exact decide_eq_decide.2 (by omega)
        exact ⟨_, rfl, by simp only [inF, h1, h2, h3, Int.toNat_natCast, bw, Bool.true_and, Bool.not_and]⟩
  rintro t ⟨b_, rfl, hb⟩
  repeat refine AW.seq ?_
  refine AW.cond rfl (fun d1 => ?_) (fun d1 => ?_)
  · have e : inF ⟨yk, (yv, yo, yr), ya, yp⟩ dn = false := by rw [d1] at hb; simpa using hb.symm
    rw [e]
    repeat refine AW.seq ?_
    refine AW.reg ?_
    iterate 1 refine AOL.s1 (h := ?_)
    refine AOL.nil ?_
    refine AW.kq [4] (h := ?_)
    repeat refine AW.seq ?_
    refine AW.ret ?_
    refine ⟨_, [], rfl, HOk.nil _, ?_⟩
    simp only [one?, Bool.false_and, Bool.and_false]
  have e1 : inF ⟨yk, (yv, yo, yr), ya, yp⟩ dn = true := by rw [d1] at hb; simpa using hb.symm
  have l1 : yp.length ≤ dn ∧ dn ≤ yp.length := by simp [inF] at e1; omega
  rw [e1]
  clear d1 hb e1
  refine AW.skip ?_
  repeat refine AW.seq ?_
  refine AW.reg ?_
  iterate 1 refine AOL.s1 (h := ?_)
  refine AOL.nil ?_
  refine AW.kq [1, 2, 5, 6, 7] (h := ?_)
  repeat refine AW.seq ?_
  refine AW.block ?_
  repeat refine AW.seq ?_
  refine AW.loopK [1, 2, 5, 6, 7] (fun n s => ∃ (k : Nat) (r : List Int), s = ⟨125, [(1, i dn), (2, .ptr 1032 0), (5, i 1), (6, .ptr 1096 0), (7, i k)], [(1032, ⟨31, true, [u mr, u mi, u mo, u ms, u xk, u xv, u xo, u xr, i xa, ul xp, u yk, u yv, u yo, u yr, i ya, ul yp, u pv, u po, u pr, u qv, u qo, u qr]⟩), (1096, ⟨27, true, [u yk, u yv, u yo, u yr, i ya, ul yp]⟩)]⟩ ∧ yp.drop k = r ∧ k ≤ yp.length ∧ n = r.length ∧ r.all bw = yp.all bw) yp.length ?_ ?_
  · exact ⟨0, yp, rfl, rfl, Nat.zero_le _, rfl, rfl⟩
  rintro n s ⟨k, r, rfl, hr, hkl, rfl, hi⟩
  repeat refine AW.seq ?_
  refine AW.reg ?_
  iterate 3 refine AOL.s1 (h := ?_)
  refine AOL.nil ?_
  refine AW.kq [1, 2, 5, 6, 7, 94] (h := ?_)
  repeat refine AW.seq ?_
  refine AW.cond rfl (fun e_ => ?_) (fun e_ => ?_)
  · obtain ⟨t, r, rfl⟩ := ends_cons hr hkl (by simp at e_; omega)
    obtain ⟨hlt, hr', ht⟩ := dconsq hr
    have hw : IntKind.i64.wrap ((k:Int) + 1) = ((k + 1 : Nat) : Int) := by rw [wrapI_o (by omega) (by omega)]; rfl
    have k0 : (0:Int) ≤ k := by omega
    have k1 : (k:Int) < dn := by omega
    have k1' : (k:Int) < yp.length := by omega
    have hz1 : (fm u1 yp).drop (k * 1) = u t :: fm u1 r := fm_drop u1_len hr
    have hz : (fm u1 yp).drop k = u t :: fm u1 r := by simpa using hz1
    have wt : w64 t := y6 t (List.mem_of_getElem? ht)
    clear hz1
    refine AW.skip ?_
    repeat refine AW.seq ?_
    refine AW.block ?_
    repeat refine AW.seq ?_
    refine AW.reg ?_
    iterate 5 refine AOL.s1 (h := ?_)
    refine AOL.callD rfl (obolref18_below_c wt) (by kernel_rfl) rfl rfl (h := ?_)
    iterate 1 refine AOL.s1 (h := ?_)
    refine AOL.nil ?_
    refine AW.kq [1, 2, 5, 6, 7, 8] (h := ?_)
    repeat refine AW.seq ?_
    refine AW.reg ?_
    iterate 2 refine AOL.s1 (h := ?_)
    refine AOL.nil ?_
    refine AW.kq [1, 2, 5, 6, 7, 104] (h := ?_)
    repeat refine AW.seq ?_
    refine AW.cond rfl (fun f_ => ?_) (fun f_ => ?_)
    · have g_ : bw t = false := by simpa [bw] using f_
      have h_ : yp.all bw = false := by rw [← hi, List.all_cons, g_, Bool.false_and]
      rw [h_]
      repeat refine AW.seq ?_
      refine AW.reg ?_
      iterate 1 refine AOL.s1 (h := ?_)
      refine AOL.nil ?_
      refine AW.kq [4] (h := ?_)
      repeat refine AW.seq ?_
      refine AW.ret ?_
      refine ⟨_, [], rfl, HOk.nil _, ?_⟩
      simp only [one?, Bool.false_and, Bool.and_false]
    have g_ : bw t = true := by simpa [bw] using f_
    have hi : r.all bw = yp.all bw := by rw [← hi, List.all_cons, g_, Bool.true_and]
    clear f_
    refine AW.skip ?_
    repeat refine AW.seq ?_
    refine AW.reg ?_
    iterate 3 refine AOL.s1 (h := ?_)
    refine AOL.nil ?_
    exact ⟨r.length, by simp, k + 1, r, rfl, hr', hlt, rfl, hi⟩
  obtain rfl := ends_nil hr (by simp at e_; omega)
  have hi : yp.all bw = true := hi.symm
  rw [hi]
  clear hi hr hkl e_
  repeat refine AW.seq ?_
  refine AW.exit ?_
  repeat (first | refine Kseq.ex ?_ | refine Kloop.ex ?_ | refine Kblock.miss (by decide) ?_)
  refine Kblock.hit ?_
  refine AW.kq [1, 2, 5] (h := ?_)
  repeat refine AW.seq ?_
  refine AW.reg ?_
  iterate 6 refine AOL.s1 (h := ?_)
  refine AOL.nil ?_
  refine AW.kq [1, 2, 5, 9] (h := ?_)
  repeat refine AW.seq ?_
  refine AW.reg ?_
  iterate 2 refine AOL.s1 (h := ?_)
  refine AOL.callD rfl (obolref18_below_c q1) (by kernel_rfl) rfl rfl (h := ?_)
  iterate 2 refine AOL.s1 (h := ?_)
  refine AOL.kq [1, 2, 5, 9, 113] (h := ?_)
  refine AOL.or 113 118 (os' := ?_) (x := ?_) (h1 := ?_) (h0 := ?_) (h := ?_)
  rotate_left 2
  iterate 2
    · intro hb_ K' hK; (first | (iterate 5 refine AOL.s1 (h := ?_)) | ((iterate 2 refine AOL.s1 (h := ?_)); refine AOL.callD rfl (obolref18_below_c q2) (by kernel_rfl) rfl rfl (h := ?_); (iterate 2 refine AOL.s1 (h := ?_)))); refine AOL.kq [1, 2, 5, 9, 118] (h := ?_); exact hK
  iterate 1 refine AOL.s1 (h := ?_)
  refine AOL.kq [1, 2, 5, 9, 119] (h := ?_)
  refine AOL.or 119 124 (os' := ?_) (x := ?_) (h1 := ?_) (h0 := ?_) (h := ?_)
  rotate_left 2
  iterate 2
    · intro hb_ K' hK; (first | (iterate 5 refine AOL.s1 (h := ?_)) | ((iterate 2 refine AOL.s1 (h := ?_)); refine AOL.callD rfl (obolref18_below_c q3) (by kernel_rfl) rfl rfl (h := ?_); (iterate 2 refine AOL.s1 (h := ?_)))); refine AOL.kq [1, 2, 5, 9, 124] (h := ?_); exact hK
  refine AOL.nil ?_
  refine AW.kq [1, 2, 5, 124] (h := ?_)
  repeat refine AW.seq ?_
  refine AW.cond rfl (fun m1 => ?_) (fun m1 => ?_)
  · have e : outF (qv, qo, qr) = false := Bool.eq_false_iff.2 (by intro h; simp only [outF, bw, Bool.and_eq_true, decide_eq_true_eq] at h; simp at m1; omega)
    rw [e]
    repeat refine AW.seq ?_
    refine AW.reg ?_
    iterate 1 refine AOL.s1 (h := ?_)
    refine AOL.nil ?_
    refine AW.kq [4] (h := ?_)
    repeat refine AW.seq ?_
    refine AW.ret ?_
    refine ⟨_, [], rfl, HOk.nil _, ?_⟩
    simp only [one?, Bool.false_and, Bool.and_false]
  have e : outF (qv, qo, qr) = true := by simp only [outF, bw, Bool.and_eq_true, decide_eq_true_eq]; simp at m1; omega
  rw [e]
  clear m1 e
  refine AW.skip ?_
  repeat refine AW.seq ?_
  refine AW.let 1096 (h := ?_)
  refine AW.let 1144 (h := ?_)
  refine AW.reg ?_
  iterate 3 refine AOL.s1 (h := ?_)
  refine AOL.nil ?_
  refine AWin.next [1, 2, 5] (h := ?_)
  repeat refine AW.seq ?_
  refine AW.reg ?_
  iterate 2 refine AOL.s1 (h := ?_)
  refine AOL.nil ?_
  refine AW.kq [1, 2, 5, 41] (h := ?_)
  repeat refine AW.seq ?_
  refine AW.cond rfl (fun c_ => ?_) (fun c_ => ?_)
  · cases c_
  repeat refine AW.seq ?_
  refine AW.exit ?_
  repeat (first | refine Kseq.ex ?_ | refine Kloop.ex ?_ | refine Kblock.miss (by decide) ?_)
  refine Kblock.hit ?_
  refine AW.kq [] (h := ?_)
  repeat refine AW.seq ?_
  refine AW.reg ?_
  iterate 1 refine AOL.s1 (h := ?_)
  refine AOL.nil ?_
  refine AW.kq [4] (h := ?_)
  repeat refine AW.seq ?_
  refine AW.ret ?_
  refine ⟨_, [], rfl, HOk.nil _, ?_⟩
  rfl
end Go.Proofs.YtngphcdhdllnnaaGreat.E.M
end
section
/- cube, tree.Climb: hashes of numbers, paths: contracts over E. -/
set_option linter.unusedVariables false
set_option linter.unusedSimpArgs false
set_option maxRecDepth 10000
open Go Go.Proofs.YtngphcdhdllnnaaGreat.E Go.Proofs
namespace Go.Proofs.YtngphcdhdllnnaaGreat.E.M
set_option maxHeartbeats 1000000 in
theorem cube_constant_c {j : Nat} (hj : j < 3) : Fn Tryz.prog 82 [i j] [] (fun r h_ => r = u (ipow 288230376287764481 7 (j + 1))) := by
  refine Fn.enter Tryz.func82 Tryz.ntmps82 rfl (h := ?_)
  have tf := tfr
  have ot_ : (false || true) = true := rfl
  have tfr := tfr
  have k3 : IntKind.u64.wrap (j : Int) = (j : Int) := by rw [wu64]; omega
  have k4 : IntKind.u64.wrap ((j : Int) + 1) = (j : Int) + 1 := by rw [wu64]; omega
  have cP := modular_Pow_c (e := (j : Int) + 1) hR (show w64 7 by decide) (by constructor <;> omega)
  repeat refine AW.seq ?_
  refine AW.reg ?_
  iterate 1 refine AOL.s1 (h := ?_)
  refine AOL.nil ?_
  refine AW.kq [0] (h := ?_)
  repeat refine AW.seq ?_
  refine AW.reg ?_
  iterate 3 refine AOL.s1 (h := ?_)
  refine AOL.callD rfl (cP) (by kernel_rfl) rfl rfl (h := ?_)
  iterate 1 refine AOL.s1 (h := ?_)
  refine AOL.nil ?_
  refine AW.kq [2] (h := ?_)
  repeat refine AW.seq ?_
  refine AW.ret ?_
  refine ⟨_, [], rfl, HOk.nil _, ?_⟩
  rfl
theorem pow3_r (S : Int) (h : 0 ≤ S) : ipow 288230376287764481 S 3 = rMul S (rMul S S) := by
  rw [ipow_eq (by decide) h (by decide)]
  rw [show Int.toNat 3 = 3 from rfl]
  have e : S ^ 3 = S * S * S := by rw [Int.pow_succ, Int.pow_succ, Int.pow_succ, Int.pow_zero, Int.one_mul]
  rw [e]
  unfold rMul
  simp only [Int.mul_emod, Int.emod_emod, Int.mul_assoc]
theorem c7_w (j : Nat) (hj : j < 3) : w64 (ipow 288230376287764481 7 (j + 1)) := by
  rw [ipow_eq (by decide) (by decide) (by constructor <;> omega)]; exact w64_r _
theorem c7_eq (j : Nat) (hj : j < 3) : ipow 288230376287764481 7 (j + 1) = 7 ^ (j + 1) % 288230376287764481 := by
  rw [ipow_eq (by decide) (by decide) (by constructor <;> omega)]
  rw [show ((j : Int) + 1).toNat = j + 1 by omega]
set_option maxHeartbeats 1000000 in
theorem cube_Turn_c {k x : Int} (hk : w64 k) (hx : w64 x) : Fn Tryz.prog 72 [u k, u x] [] (fun r h_ => r = u (turnH k x)) := by
  refine Fn.enter Tryz.func72 Tryz.ntmps72 rfl (h := ?_)
  have tf := tfr
  have ot_ : (false || true) = true := rfl
  have tfr := tfr
  repeat refine AW.seq ?_
  refine AW.reg ?_
  iterate 1 refine AOL.s1 (h := ?_)
  refine AOL.nil ?_
  refine AW.kq [0, 1] (h := ?_)
  repeat refine AW.seq ?_
  refine AW.reg ?_
  iterate 1 refine AOL.s1 (h := ?_)
  refine AOL.nil ?_
  refine AW.kq [0, 1, 6] (h := ?_)
  repeat refine AW.seq ?_
  refine AW.block ?_
  repeat refine AW.seq ?_
  refine AW.loopK [0, 1, 6] (fun n s => ∃ (j : Nat) (y c : Int), s = ⟨20, [(0, u k), (1, u y), (6, i j)], []⟩ ∧ j + n = 3 ∧ w64 y ∧ id (c = 7 ^ j % 288230376287764481) ∧ id (trn k n c y = trn k 3 1 x)) (3) ?_ ?_
  · exact ⟨0, x, 1, rfl, rfl, hx, by show (1:Int) = _; decide, rfl⟩
  rintro n s ⟨j, y, c, rfl, hj, hy, hc, ht⟩
  repeat refine AW.seq ?_
  refine AW.reg ?_
  iterate 1 refine AOL.s1 (h := ?_)
  refine AOL.nil ?_
  refine AW.kq [0, 1, 6, 7] (h := ?_)
  repeat refine AW.seq ?_
  refine AW.cond rfl (fun c_ => ?_) (fun c_ => ?_)
  · have j1 : j < 3 := by simp at c_; omega
    obtain ⟨n, rfl⟩ : ∃ m, n = m + 1 := ⟨n - 1, by omega⟩
    have k2 : IntKind.i64.wrap ((j : Int) + 1) = ((j + 1 : Nat) : Int) := by rw [wrapI_o (by omega) (by omega)]; omega
    have hc' : id (rMul c 7 = 7 ^ (j + 1) % 288230376287764481) := by
      show _ = _
      unfold rMul; rw [show c = _ from hc, Int.pow_succ, Int.mul_emod (7 ^ j % 288230376287764481), Int.emod_emod, ← Int.mul_emod]
    have e7 := c7_eq j j1
    have cC := cube_constant_c j1
    have cA := modular_Add_c hR hk (c7_w j j1)
    have cB := modular_Add_c hR hy (w64_r (k + ipow 288230376287764481 7 (j + 1)))
    have cP := modular_Pow_c (e := 3) hR (w64_r (y + (k + ipow 288230376287764481 7 (j + 1)) % 288230376287764481)) (by decide)
    have hS : id (ipow 288230376287764481 ((y + (k + ipow 288230376287764481 7 (j + 1)) % 288230376287764481) % 288230376287764481) 3 = rMul (rAdd y (rAdd k (rMul c 7))) (rMul (rAdd y (rAdd k (rMul c 7))) (rAdd y (rAdd k (rMul c 7))))) := by
      show _ = _
      rw [pow3_r _ (Int.emod_nonneg _ (by decide)), show rMul c 7 = _ from hc', e7]; rfl
    replace e7 : id (_ = _) := e7
    refine AW.skip ?_
    repeat refine AW.seq ?_
    refine AW.block ?_
    repeat refine AW.seq ?_
    refine AW.reg ?_
    iterate 2 refine AOL.s1 (h := ?_)
    refine AOL.nil ?_
    refine AW.kq [0, 1, 5, 6] (h := ?_)
    repeat refine AW.seq ?_
    refine AW.reg ?_
    iterate 3 refine AOL.s1 (h := ?_)
    refine AOL.callD rfl (cC) (by kernel_rfl) rfl rfl (h := ?_)
    refine AOL.callD rfl (cA) (by kernel_rfl) rfl rfl (h := ?_)
    refine AOL.callD rfl (cB) (by kernel_rfl) rfl rfl (h := ?_)
    refine AOL.callD rfl (cP) (by kernel_rfl) rfl rfl (h := ?_)
    iterate 1 refine AOL.s1 (h := ?_)
    refine AOL.nil ?_
    repeat refine AW.seq ?_
    refine AW.reg ?_
    iterate 2 refine AOL.s1 (h := ?_)
    refine AOL.nil ?_
    refine ⟨n, by omega, j + 1, _, rMul c 7, rfl, by omega, ?_, hc', ?_⟩
    · rw [show _ = _ from hS]; exact (rMul_l _ _).w
    · show _ = _
      rw [show ipow _ _ _ = _ from hS]; exact ht
  · have n0 : n = 0 := by simp at c_; omega
    subst n0
    have hy2 : y = trn k 3 1 x := ht
    subst hy2
    clear ht
    have cT := modular_Add_c hR hy hk
    repeat refine AW.seq ?_
    refine AW.exit ?_
    repeat (first | refine Kseq.ex ?_ | refine Kloop.ex ?_ | refine Kblock.miss (by decide) ?_)
    refine Kblock.hit ?_
    refine AW.kq [0, 1] (h := ?_)
    repeat refine AW.seq ?_
    refine AW.reg ?_
    iterate 2 refine AOL.s1 (h := ?_)
    refine AOL.callD rfl (cT) (by kernel_rfl) rfl rfl (h := ?_)
    iterate 1 refine AOL.s1 (h := ?_)
    refine AOL.nil ?_
    refine AW.kq [4] (h := ?_)
    repeat refine AW.seq ?_
    refine AW.ret ?_
    refine ⟨_, [], rfl, HOk.nil _, ?_⟩
    rfl
set_option maxHeartbeats 1000000 in
theorem cube_Two_c {a b : Int} (ha : w64 a) (hb : w64 b) : Fn Tryz.prog 55 [u a, u b] [] (fun r h_ => r = u (twoH a b)) := by
  refine Fn.enter Tryz.func55 Tryz.ntmps55 rfl (h := ?_)
  have tf := tfr
  have ot_ : (false || true) = true := rfl
  have tfr := tfr
  have c1 := cube_Turn_c ha hb
  have c2 := modular_Add_c hR ha hb
  have c3 := modular_Add_c hR (turnH_l a b).w (w64_r (a + b))
  repeat refine AW.seq ?_
  refine AW.reg ?_
  iterate 1 refine AOL.s1 (h := ?_)
  refine AOL.nil ?_
  refine AW.kq [0, 1] (h := ?_)
  repeat refine AW.seq ?_
  refine AW.reg ?_
  iterate 2 refine AOL.s1 (h := ?_)
  refine AOL.callD rfl (c1) (by kernel_rfl) rfl rfl (h := ?_)
  iterate 2 refine AOL.s1 (h := ?_)
  refine AOL.callD rfl (c2) (by kernel_rfl) rfl rfl (h := ?_)
  refine AOL.callD rfl (c3) (by kernel_rfl) rfl rfl (h := ?_)
  iterate 1 refine AOL.s1 (h := ?_)
  refine AOL.nil ?_
  refine AW.kq [4] (h := ?_)
  repeat refine AW.seq ?_
  refine AW.ret ?_
  refine ⟨_, [], rfl, HOk.nil _, ?_⟩
  rfl
set_option maxHeartbeats 4000000 in
theorem cube_heads_c {V : List Int} (hV : wV V) (lV : V.length < 1000000) : Fn Tryz.prog 73 [ul V] [] (fun r h_ => ∃ H : List Int, r = ul H ∧ H.length = V.length + 1 ∧ H[V.length]? = some (manyH V) ∧ wV H) := by
  refine Fn.enter Tryz.func73 Tryz.ntmps73 rfl (h := ?_)
  have tf := tfr
  have ot_ : (false || true) = true := rfl
  have tfr := tfr
  have lu : IntKind.u64.wrap (V.length : Int) = V.length := by rw [wu64]; omega
  have tm : (V.length : Int).tmod 288230376287764481 = (V.length : Int) % 288230376287764481 := Int.tmod_eq_emod_of_nonneg (by omega)
  repeat refine AW.seq ?_
  refine AW.reg ?_
  iterate 1 refine AOL.s1 (h := ?_)
  refine AOL.nil ?_
  refine AW.kq [0] (h := ?_)
  repeat refine AW.seq ?_
  refine AW.reg ?_
  iterate 6 refine AOL.s1 (h := ?_)
  refine AOL.nil ?_
  refine AW.kq [0, 3] (h := ?_)
  repeat refine AW.seq ?_
  refine AW.reg ?_
  iterate 3 refine AOL.s1 (h := ?_)
  refine AOL.nil ?_
  refine AW.kq [3, 11, 12, 13] (h := ?_)
  repeat refine AW.seq ?_
  refine AW.block ?_
  repeat refine AW.seq ?_
  refine AW.loopK [3, 11, 12, 13] (fun n s => ∃ (k : Nat) (o r : List Int) (g : Int), s = ⟨29, [(3, .ref 1160 0 o.length 1), (11, ul V), (12, i V.length), (13, i k)], [(1160, ⟨22, false, fm u1 o⟩)]⟩ ∧ V.drop k = r ∧ k ≤ V.length ∧ n = r.length ∧ id (o.length = k + 1) ∧ o[k]? = some g ∧ wV o ∧ id (r.foldl twoH g = manyH V)) (V.length) ?_ ?_
  · exact ⟨0, [(V.length : Int) % 288230376287764481], V, _, rfl, rfl, Nat.zero_le _, rfl, rfl, rfl, (fun v hv => by simp only [List.mem_singleton] at hv; subst hv; exact w64_r _), rfl⟩
  rintro n s ⟨k, o, r, g, rfl, hr, hkl, rfl, ho, hg, hw, hi⟩
  repeat refine AW.seq ?_
  refine AW.reg ?_
  iterate 1 refine AOL.s1 (h := ?_)
  refine AOL.nil ?_
  refine AW.kq [3, 11, 12, 13, 14] (h := ?_)
  repeat refine AW.seq ?_
  refine AW.cond rfl (fun c_ => ?_) (fun c_ => ?_)
  · cases r with
    | nil => have := dnilq hr hkl; simp at c_; omega
    | cons t r =>
    obtain ⟨hlt, hr', ht_⟩ := dconsq hr
    have hd : (fm u1 V).drop k = u t :: fm u1 r := by
      have := fm_drop u1_len hr
      rwa [Nat.mul_one] at this
    have k0 : (0:Int) ≤ k := by omega
    have k1 : (k:Int) < V.length := by omega
    have hwr := incq hlt (show V.length < 1000000000 by omega)
    have ol : o.length = k + 1 := ho
    have hgw := hw g (List.mem_of_getElem? hg)
    have hlo : k < o.length := by omega
    have hdo : (fm u1 o).drop k = u g :: fm u1 (o.drop (k + 1)) := by
      have := fm_at u1_len hlo
      rw [Nat.mul_one] at this
      rw [this]
      rw [List.getElem?_eq_getElem hlo] at hg
      rw [Option.some.inj hg]; rfl
    have lo : (fm u1 o).length = o.length := by rw [fm_len u1_len, Nat.mul_one]
    have kl : (k:Int) < o.length := by omega
    have p1 : (o.length + 1) * 8 ≤ 140737488355328 := by omega
    have p2 : o.length + 1 ≤ 4611686018427387904 := by omega
    have p3 : o.length ≤ 4611686018427387903 := by omega
    have c2 := cube_Two_c hgw (hV t (List.mem_of_getElem? ht_))
    replace ol : id (_ = _) := ol
    clear hr hg
    refine AW.skip ?_
    repeat refine AW.seq ?_
    refine AW.block ?_
    repeat refine AW.seq ?_
    refine AW.reg ?_
    iterate 5 refine AOL.s1 (h := ?_)
    refine AOL.nil ?_
    refine AW.kq [3, 4, 5, 11, 12, 13] (h := ?_)
    repeat refine AW.seq ?_
    refine AW.reg ?_
    iterate 6 refine AOL.s1 (h := ?_)
    refine AOL.callD rfl (c2) (by kernel_rfl) rfl rfl (h := ?_)
    iterate 3 refine AOL.s1 (h := ?_)
    refine AOL.nil ?_
    repeat refine AW.seq ?_
    refine AW.let 1400 (h := ?_)
    refine AW.reg ?_
    iterate 2 refine AOL.s1 (h := ?_)
    refine AOL.nil ?_
    refine ⟨r.length, by simp, k + 1, o ++ [twoH g t], r, _, ?_, hr', hlt, rfl, ?_, ?_, ?_, hi⟩
    · rw [fm_app, List.length_append]; rfl
    · show _ = _; rw [List.length_append, show o.length = _ from ol]; rfl
    · rw [List.getElem?_append_right (by rw [show o.length = _ from ol]; exact Nat.le_refl _), show o.length = _ from ol]; simp
    · intro v hv
      rcases List.mem_append.1 hv with hv | hv
      · exact hw v hv
      · simp only [List.mem_singleton] at hv; subst hv; exact (twoH_l _ _).w
  · have : r = [] := by
      cases r with
      | nil => rfl
      | cons t r => have := (dconsq hr).1; simp at c_; omega
    subst this
    have hk : k = V.length := dnilq hr hkl
    have hg2 : g = manyH V := hi
    subst hk hg2
    repeat refine AW.seq ?_
    refine AW.exit ?_
    repeat (first | refine Kseq.ex ?_ | refine Kloop.ex ?_ | refine Kblock.miss (by decide) ?_)
    refine Kblock.hit ?_
    refine AW.kq [3] (h := ?_)
    repeat refine AW.seq ?_
    refine AW.reg ?_
    iterate 2 refine AOL.s1 (h := ?_)
    refine AOL.nil ?_
    refine AW.kq [2] (h := ?_)
    repeat refine AW.seq ?_
    refine AW.fz 1160 rfl (fun h => by cases h) (h := ?_)
    refine AW.ret ?_
    refine ⟨_, [], rfl, HOk.nil _, ?_⟩
    refine ⟨o, ?_, ho, hg, hw⟩
    simp only [one?]
    rw [sub_all (by rw [fm_len u1_len]; exact Nat.le_refl _)]
set_option maxHeartbeats 1000000 in
theorem cube_Many_c {V : List Int} (hV : wV V) (lV : V.length < 1000000) : Fn Tryz.prog 59 [ul V] [] (fun r h_ => r = u (manyH V)) := by
  refine Fn.enter Tryz.func59 Tryz.ntmps59 rfl (h := ?_)
  have tf := tfr
  have ot_ : (false || true) = true := rfl
  have tfr := tfr
  have lv : (0:Int) ≤ (V.length : Int) := by omega
  have cH := cube_heads_c hV lV
  repeat refine AW.seq ?_
  refine AW.reg ?_
  iterate 1 refine AOL.s1 (h := ?_)
  refine AOL.nil ?_
  refine AW.kq [0] (h := ?_)
  repeat refine AW.seq ?_
  refine AW.reg ?_
  iterate 1 refine AOL.s1 (h := ?_)
  refine AOL.call rfl cH (by kernel_rfl) rfl ?_
  rintro q h_ ⟨H, rfl, hl, hg, hw⟩
  refine ⟨rfl, ?_⟩
  have hlo : V.length < H.length := by omega
  have hdo : (fm u1 H).drop V.length = u (manyH V) :: fm u1 (H.drop (V.length + 1)) := by
    have := fm_at u1_len hlo
    rw [Nat.mul_one] at this
    rw [this]
    rw [List.getElem?_eq_getElem hlo] at hg
    rw [Option.some.inj hg]; rfl
  have kl : (V.length : Int) < (H.length : Int) := by omega
  clear hg hl
  iterate 5 refine AOL.s1 (h := ?_)
  refine AOL.nil ?_
  refine AW.kq [2] (h := ?_)
  repeat refine AW.seq ?_
  refine AW.ret ?_
  refine ⟨_, [], rfl, HOk.nil _, ?_⟩
  rfl
end Go.Proofs.YtngphcdhdllnnaaGreat.E.M
end
section
/- circuit: a maker's methods in a region that is drawn. -/
set_option linter.unusedVariables false
set_option linter.unusedSimpArgs false
set_option maxRecDepth 10000
open Go Go.Proofs.YtngphcdhdllnnaaGreat.E Go.Proofs
namespace Go.Proofs.YtngphcdhdllnnaaGreat.E.M
theorem ADM.callM {G : Prop} {ops : Array Oper} {st : St} {Hc : List (Nat × Blk)} {Ls : List Nat} {pre : List Oper} {base : List (Nat × AV)} {o : Oper} {os : List Oper} {vs vs' : List (AV × Option Blk)} {hcur hnew : List (Nat × Blk)} {cuts cuts' : List Cut} {n l b : Nat} {g : FuncId} {xs : List AV} {r0 : AV} {m m' : Mk}
    (hF : Fn Tryz.prog g (.ptr 0 0 :: xs) (mkIn m) (Tells r0 (mkOut m')))
    (hc : callOf (dVw st pre base vs o) o = some (g, .ptr l 0 :: xs)) (hcl : callable Tryz.prog g = true) (hfr : frees xs = true) (hr : r0.free = true)
    (hd : dOk st.n o.dst = true) (hg : o.guard = none)
    (h0 : get? l hcur = some (mkB m (b + 1) (b + 2))) (h1 : get? (b + 1) hcur = some (rwB m.rows)) (h2 : get? (b + 2) hcur = some (vlB m.vals))
    (hLs : Ls = [b + 1, b + 2, b + 1, b + 2])
    (hnew' : ins (b + 2) (vlB m'.vals) (ins (b + 1) (rwB m'.rows) (ins l (mkB m' (b + 1) (b + 2)) (St.drops ⟨0, [], hcur⟩ [b + 1, b + 2, b + 1, b + 2]).h)) = hnew)
    (hvs : vs ++ [(r0, none)] = vs') (hcs : cuts ++ [(vs.length, r0, hcur, hnew)] = cuts')
    (h : ADM G Tryz.prog ops n st Hc Ls pre base os vs' hnew cuts')
    (hl : l ≠ b + 1 ∧ l ≠ b + 2 := by decide) (hb : 1000 ≤ b := by decide) : ADM G Tryz.prog ops n st Hc Ls pre base (o :: os) vs hcur cuts := by
  refine ADM.cut (v := r0) (hnew := hnew) ?_ hvs hcs h
  rintro vw rfl
  refine .inr ⟨hd, hg, fun T K' hK => ?_⟩
  refine AOL.callM (l := l) (b := b) hF (callL_front hd hg hc) hcl hfr hr h0 h1 h2 rfl ?_ hl hb
  refine AOL.nil ?_
  rw [← hnew', hLs, drops_heap _ (n' := st.n) (t' := (dVw st pre base vs o).t ++ T)] at hK
  exact hK
end Go.Proofs.YtngphcdhdllnnaaGreat.E.M
end
section
/- circuit: a note's mark, climbing, a new variable of others: contracts over E. -/
set_option linter.unusedVariables false
set_option linter.unusedSimpArgs false
set_option maxRecDepth 10000
open Go Go.Proofs.YtngphcdhdllnnaaGreat.E Go.Proofs
namespace Go.Proofs.YtngphcdhdllnnaaGreat.E.M
theorem and_onei {x : Int} (h0 : 0 ≤ x) (h1 : x < 9223372036854775808) : IntKind.i64.wrap ((BitVec.ofInt IntKind.i64.bits x &&& BitVec.ofInt IntKind.i64.bits 1).toNat : Int) = x % 2 := by
  obtain ⟨n, rfl⟩ := Int.eq_ofNat_of_zero_le h0
  have h2 : (BitVec.ofInt IntKind.i64.bits (n:Int) &&& BitVec.ofInt IntKind.i64.bits 1).toNat = n % 2 := by
    rw [BitVec.toNat_and, BitVec.toNat_ofInt, BitVec.toNat_ofInt]
    have e1 : ((n:Int) % ((2 ^ IntKind.i64.bits : Nat) : Int)).toNat = n := by simp only [IntKind.bits]; omega
    have e2 : ((1:Int) % ((2 ^ IntKind.i64.bits : Nat) : Int)).toNat = 1 := by decide
    rw [e1, e2, Nat.and_one_is_mod]
  rw [h2, wrapI_o (by omega) (by omega)]; omega
theorem shr_i {y : Int} (h : 0 ≤ y) : y.fdiv (2 ^ min 1 IntKind.i64.bits) = y / 2 := by
  rw [Nat.min_eq_left (by decide), Int.fdiv_eq_ediv_of_nonneg _ (by decide)]; rfl
set_option maxHeartbeats 1000000 in
theorem circuit_mark_c {n : Int × Int × Int} (hn : wN n) : Fn Tryz.prog 57 [nt n] [] (fun r h_ => r = u (mrkH n)) := by
  refine Fn.enter Tryz.func57 Tryz.ntmps57 rfl (h := ?_)
  have tf := tfm
  have ot_ : (false || true) = true := rfl
  have tf1 := tfn
  have tfr := tfr
  obtain ⟨n1, n2, n3⟩ := n
  have hw : wV [n1, n2, n3] := by
    intro v hv
    simp only [List.mem_cons, List.not_mem_nil, or_false] at hv
    rcases hv with rfl | rfl | rfl
    · exact hn.1
    · exact hn.2.1
    · exact hn.2.2
  repeat refine AW.seq ?_
  refine AW.reg ?_
  iterate 2 refine AOL.s1 (h := ?_)
  refine AOL.nil ?_
  refine AW.kq [1] (h := ?_)
  repeat refine AW.seq ?_
  refine AW.reg ?_
  iterate 7 refine AOL.s1 (h := ?_)
  refine AOL.fz 1144 rfl (fun h => by cases h) (h := ?_)
  refine AOL.callD rfl (cube_Many_c (V := [n1, n2, n3]) hw (by simp)) (by kernel_rfl) rfl rfl (h := ?_)
  iterate 1 refine AOL.s1 (h := ?_)
  refine AOL.nil ?_
  refine AW.kq [2] (h := ?_)
  repeat refine AW.seq ?_
  refine AW.ret ?_
  refine ⟨_, [], rfl, HOk.nil _, ?_⟩
  rfl
set_option maxHeartbeats 1000000 in
theorem tree_Climb_c {h n : Int} {V : List Int} (hh : w64 h) (hn : -9223372036854775808 ≤ n ∧ n < 9223372036854775808) (hV : wV V) (lV : V.length < 1000000000) : Fn Tryz.prog 56 [u h, i n, ul V] [] (fun r h_ => r = u (climbH V (nonneg n) h)) := by
  refine Fn.enter Tryz.func56 Tryz.ntmps56 rfl (h := ?_)
  have tf := tfm
  have ot_ : (false || true) = true := rfl
  have tfr := tfr
  have hmx : (if 0 > n then 0 else n) = nonneg n := by unfold nonneg; rfl
  repeat refine AW.seq ?_
  refine AW.reg ?_
  iterate 1 refine AOL.s1 (h := ?_)
  refine AOL.nil ?_
  refine AW.kq [0, 1, 2] (h := ?_)
  repeat refine AW.seq ?_
  refine AW.reg ?_
  iterate 5 refine AOL.s1 (h := ?_)
  refine AOL.nil ?_
  refine AW.kq [2, 7, 8] (h := ?_)
  have m0 : 0 ≤ nonneg n ∧ nonneg n < 9223372036854775808 := by unfold nonneg; split <;> omega
  clear hmx
  generalize nonneg n = m at *
  repeat refine AW.seq ?_
  refine AW.reg ?_
  iterate 3 refine AOL.s1 (h := ?_)
  refine AOL.nil ?_
  refine AW.kq [7, 8, 14, 15, 16] (h := ?_)
  repeat refine AW.seq ?_
  refine AW.block ?_
  repeat refine AW.seq ?_
  refine AW.loopK [7, 8, 14, 15, 16] (fun n' s => ∃ (k : Nat) (a : Int) (g : Int) (r : List Int), s = ⟨33, [(7, u g), (8, i a), (14, ul V), (15, i V.length), (16, i k)], []⟩ ∧ V.drop k = r ∧ k ≤ V.length ∧ n' = r.length ∧ w64 g ∧ (0 ≤ a ∧ a < 9223372036854775808) ∧ climbH r a g = climbH V m h) (V.length) ?_ ?_
  · exact ⟨0, m, h, V, rfl, rfl, Nat.zero_le _, rfl, hh, m0, rfl⟩
  rintro n' s ⟨k, a, g, r, rfl, hr, hkl, rfl, hg, ha, hi⟩
  repeat refine AW.seq ?_
  refine AW.reg ?_
  iterate 1 refine AOL.s1 (h := ?_)
  refine AOL.nil ?_
  refine AW.kq [7, 8, 14, 15, 16, 17] (h := ?_)
  repeat refine AW.seq ?_
  refine AW.cond rfl (fun d_ => ?_) (fun d_ => ?_)
  · obtain ⟨t, r, rfl⟩ := ends_cons hr hkl (by simpa using d_)
    obtain ⟨hlt, hr', ht⟩ := dconsq hr
    have hw := incq hlt lV
    have k0 : (0:Int) ≤ k := by omega
    have k1 : (k:Int) < V.length := by omega
    have hd1 : (fm u1 V).drop (k * 1) = u t :: fm u1 r := fm_drop u1_len hr
    have hd' : (fm u1 V).drop k = u t :: fm u1 r := by simpa using hd1
    have wt : w64 t := hV t (List.mem_of_getElem? ht)
    have hand := and_onei ha.1 ha.2
    have kt1 : Int.toNat 1 = 1 := rfl
    have hsh := shr_i ha.1
    have hsw : IntKind.i64.wrap (a / 2) = a / 2 := wrapI_o (by omega) (by omega)
    have hi : climbH r (a / 2) (if a % 2 = 1 then twoH t g else twoH g t) = climbH V m h := hi
    clear hd1
    refine AW.skip ?_
    repeat refine AW.seq ?_
    refine AW.block ?_
    repeat refine AW.seq ?_
    refine AW.reg ?_
    iterate 3 refine AOL.s1 (h := ?_)
    refine AOL.nil ?_
    refine AW.kq [7, 8, 10, 14, 15, 16] (h := ?_)
    repeat refine AW.seq ?_
    refine AW.reg ?_
    iterate 3 refine AOL.s1 (h := ?_)
    refine AOL.nil ?_
    refine AW.kq [7, 8, 10, 14, 15, 16, 22] (h := ?_)
    repeat refine AW.seq ?_
    refine AW.midK [7, 8, 14, 15, 16] (fun t => ∃ (g' : Int), t = ⟨33, [(7, u g'), (8, i a), (14, ul V), (15, i V.length), (16, i k)], []⟩ ∧ w64 g' ∧ climbH r (a / 2) g' = climbH V m h) ?_ ?_
    · refine AW.cond rfl (fun e_ => ?_) (fun e_ => ?_)
      · rw [if_pos (by simpa using e_)] at hi
        repeat refine AW.seq ?_
        refine AW.reg ?_
        iterate 2 refine AOL.s1 (h := ?_)
        refine AOL.callD rfl (cube_Two_c wt hg) (by kernel_rfl) rfl rfl (h := ?_)
        iterate 1 refine AOL.s1 (h := ?_)
        refine AOL.nil ?_
        exact ⟨_, rfl, (twoH_l _ _).w, hi⟩
      · rw [if_neg (by simpa using e_)] at hi
        repeat refine AW.seq ?_
        refine AW.reg ?_
        iterate 2 refine AOL.s1 (h := ?_)
        refine AOL.callD rfl (cube_Two_c hg wt) (by kernel_rfl) rfl rfl (h := ?_)
        iterate 1 refine AOL.s1 (h := ?_)
        refine AOL.nil ?_
        exact ⟨_, rfl, (twoH_l _ _).w, hi⟩
    rintro t ⟨g', rfl, hg', hi'⟩
    clear hi
    repeat refine AW.seq ?_
    refine AW.reg ?_
    iterate 3 refine AOL.s1 (h := ?_)
    refine AOL.nil ?_
    repeat refine AW.seq ?_
    refine AW.reg ?_
    iterate 2 refine AOL.s1 (h := ?_)
    refine AOL.nil ?_
    exact ⟨r.length, by simp, k + 1, a / 2, g', r, rfl, hr', hlt, rfl, hg', by omega, hi'⟩
  · obtain rfl := ends_nil hr (by simpa using d_)
    have hi : g = climbH V m h := hi
    subst hi
    repeat refine AW.seq ?_
    refine AW.exit ?_
    repeat (first | refine Kseq.ex ?_ | refine Kloop.ex ?_ | refine Kblock.miss (by decide) ?_)
    refine Kblock.hit ?_
    refine AW.kq [7] (h := ?_)
    repeat refine AW.seq ?_
    refine AW.reg ?_
    iterate 2 refine AOL.s1 (h := ?_)
    refine AOL.nil ?_
    refine AW.kq [6] (h := ?_)
    repeat refine AW.seq ?_
    refine AW.ret ?_
    refine ⟨_, [], rfl, HOk.nil _, ?_⟩
    rfl
def sumS : Nat → Int → List Int → List Tm
  | _, _, [] => []
  | j, k, v :: r => ⟨v, if j = 0 then 1 else k⟩ :: sumS (j + 1) k r
set_option maxHeartbeats 4000000 in
theorem circuit_sum_c {m : Mk} {k : Int} {V : List Int} (hm : Mok 2 m) (hk : w64 k) (lV : V.length < 1000) : Fn Tryz.prog 29 [.ptr 0 0, u k, il V] [(0, mkB m 1 2), (1, rwB m.rows), (2, vlB m.vals)] (Tells (i m.vals.length) (mkOut (linM m (sumS 0 k V)))) := by
  refine Fn.enter Tryz.func29 Tryz.ntmps29 rfl (h := ?_)
  have tf := tfm
  have ot_ : (false || true) = true := rfl
  have tfr := tfr
  refine AW.mv 1 1001 (h := ?_)
  refine AW.mv 2 1002 (h := ?_)
  repeat refine AW.seq ?_
  refine AW.reg ?_
  iterate 1 refine AOL.s1 (h := ?_)
  refine AOL.nil ?_
  refine AW.kq [0, 1, 2] (h := ?_)
  repeat refine AW.seq ?_
  refine AW.reg ?_
  iterate 1 refine AOL.s1 (h := ?_)
  refine AOL.nil ?_
  refine AW.kq [0, 1, 2, 7] (h := ?_)
  repeat refine AW.seq ?_
  refine AW.reg ?_
  iterate 3 refine AOL.s1 (h := ?_)
  refine AOL.nil ?_
  refine AW.kq [0, 1, 7, 11, 12, 13] (h := ?_)
  repeat refine AW.seq ?_
  refine AW.block ?_
  repeat refine AW.seq ?_
  refine AW.born 7 9001 80 2 (.inl rfl) (h := ?_)
  refine AW.loopK [0, 1, 7, 11, 12, 13] (fun n s => ∃ (j : Nat) (l : List Tm) (r : List Int), s = ⟨31, [(0, .ptr 0 0), (1, u k), (7, .ref 9001 0 j 2), (11, il V), (12, i V.length), (13, i j)], [(0, mkB m 1001 1002), (1001, rwB m.rows), (1002, vlB m.vals), (9001, ⟨80, false, fm tm l⟩)]⟩ ∧ V.drop j = r ∧ j ≤ V.length ∧ n = r.length ∧ l.length = j ∧ wT l ∧ l ++ sumS j k r = sumS 0 k V) (V.length) ?_ ?_
  · exact ⟨0, [], V, rfl, rfl, Nat.zero_le _, rfl, rfl, (fun t ht => by cases ht), rfl⟩
  rintro n s ⟨j, l, r, rfl, hr, hjl, rfl, hl, hlw, hs⟩
  repeat refine AW.seq ?_
  refine AW.reg ?_
  iterate 1 refine AOL.s1 (h := ?_)
  refine AOL.nil ?_
  refine AW.kq [0, 1, 7, 11, 12, 13, 14] (h := ?_)
  repeat refine AW.seq ?_
  refine AW.cond rfl (fun c_ => ?_) (fun c_ => ?_)
  · obtain ⟨z, r, rfl⟩ := ends_cons hr hjl (by simpa using c_)
    obtain ⟨hlt, hr', ht⟩ := dconsq hr
    have hw := incq hlt (by omega)
    have k0 : (0:Int) ≤ j := by omega
    have k1 : (j:Int) < V.length := by omega
    have hd1 : (fm i1 V).drop (j * 1) = i z :: fm i1 r := fm_drop i1_len hr
    have hd' : (fm i1 V).drop j = i z :: fm i1 r := by simpa using hd1
    clear hd1
    refine AW.skip ?_
    repeat refine AW.seq ?_
    refine AW.block ?_
    repeat refine AW.seq ?_
    refine AW.reg ?_
    iterate 5 refine AOL.s1 (h := ?_)
    refine AOL.nil ?_
    refine AW.kq [0, 1, 7, 8, 9, 11, 12, 13] (h := ?_)
    repeat refine AW.seq ?_
    refine AW.reg ?_
    iterate 1 refine AOL.s1 (h := ?_)
    refine AOL.nil ?_
    refine AW.kq [0, 1, 7, 8, 9, 10, 11, 12, 13] (h := ?_)
    repeat refine AW.seq ?_
    refine AW.reg ?_
    iterate 2 refine AOL.s1 (h := ?_)
    refine AOL.nil ?_
    refine AW.kq [0, 1, 7, 9, 10, 11, 12, 13, 19] (h := ?_)
    repeat refine AW.seq ?_
    refine AW.midK [0, 1, 7, 9, 10, 11, 12, 13] (fun t => ∃ (b : Int), t = ⟨31, [(0, .ptr 0 0), (1, u k), (7, .ref 9001 0 j 2), (9, i z), (10, u b), (11, il V), (12, i V.length), (13, i j)], [(0, mkB m 1001 1002), (1001, rwB m.rows), (1002, vlB m.vals), (9001, ⟨80, false, fm tm l⟩)]⟩ ∧ b = (if j = 0 then 1 else k)) ?_ ?_
    · refine AW.cond rfl (fun e_ => ?_) (fun e_ => ?_)
      · skip
        repeat refine AW.seq ?_
        refine AW.reg ?_
        iterate 2 refine AOL.s1 (h := ?_)
        refine AOL.nil ?_
        exact ⟨_, rfl, (if_neg (by simp at e_; omega)).symm⟩
      · skip
        refine AW.skip ?_
        exact ⟨_, rfl, (if_pos (by simp at e_; omega)).symm⟩
    rintro t ⟨b, rfl, hb⟩
    have w1 : w64 b := by
      rw [hb]; split
      · exact ⟨by decide, by decide⟩
      · exact hk
    have ll : (fm tm l).length = j * 2 := by rw [fm_len tm_len, hl]
    have o1 : (j + 1) * 16 ≤ 140737488355328 := by omega
    have o3 : j ≤ 4611686018427387903 := by omega
    have o2 : j + 1 ≤ 4611686018427387904 := by omega
    have hb' : id (b = if j = 0 then 1 else k) := hb
    have hs' : id (l ++ sumS j k (z :: r) = sumS 0 k V) := hs
    clear hs hb hr
    repeat refine AW.seq ?_
    refine AW.reg ?_
    iterate 7 refine AOL.s1 (h := ?_)
    refine AOL.nil ?_
    repeat refine AW.seq ?_
    refine AW.let 1400 (h := ?_)
    refine AW.reg ?_
    iterate 2 refine AOL.s1 (h := ?_)
    refine AOL.nil ?_
    refine ⟨r.length, by simp, j + 1, l ++ [⟨z, b⟩], r, ?_, hr', hlt, rfl, by rw [List.length_append, hl]; rfl, ?_, ?_⟩
    · rw [fmt_snoc]; rfl
    · intro x hx
      rcases List.mem_append.1 hx with hx | hx
      · exact hlw x hx
      · simp only [List.mem_singleton] at hx; subst hx; exact w1
    · have e : b = if j = 0 then 1 else k := hb'
      rw [List.append_assoc, e]; exact hs'
  · obtain rfl := ends_nil hr (by simpa using c_)
    have hs' : l = sumS 0 k V := by simpa [sumS] using hs
    rw [← hs']
    clear hs hs'
    have hfl : AV.sl j (sub 0 (j * 2) (fm tm l)) = slF tm l := by rw [← hl, sub_all (by rw [fm_len tm_len]; exact Nat.le_refl _)]
    refine AW.fz 9001 rfl (fun h => by cases h) (h := ?_)
    rw [hfl]
    clear hfl
    have tl : tok l := ⟨by omega, hlw⟩
    clear hl
    repeat refine AW.seq ?_
    refine AW.exit ?_
    repeat (first | refine Kseq.ex ?_ | refine Kloop.ex ?_ | refine Kblock.miss (by decide) ?_)
    refine Kblock.hit ?_
    refine AW.kq [0, 7] (h := ?_)
    repeat refine AW.seq ?_
    refine AW.reg ?_
    iterate 2 refine AOL.s1 (h := ?_)
    refine AOL.callM (l := 0) (b := 1000) (gadget_Maker_Linear_c hm tl) rfl (by kernel_rfl) rfl rfl rfl rfl rfl (hst := by simp only [St.drops, St.drop, mapT, mapH, kill, kills, del, St.put, ins, reduceIte, Nat.reduceAdd, Nat.reduceLT, Nat.reduceEqDiff, Bool.false_eq_true]; exact rfl) ?_
    iterate 1 refine AOL.s1 (h := ?_)
    refine AOL.nil ?_
    refine AW.kq [6] (h := ?_)
    repeat refine AW.seq ?_
    refine AW.ret ?_
    refine ⟨_, mkOut (linM m l), rfl, ?_, ?_⟩
    · exact fun p hp => hp
    · exact Tells.self
end Go.Proofs.YtngphcdhdllnnaaGreat.E.M
end
section
/- circuit: what it makes of an input: contracts over E. -/
set_option linter.unusedVariables false
set_option linter.unusedSimpArgs false
set_option maxRecDepth 10000
open Go Go.Proofs.YtngphcdhdllnnaaGreat.E Go.Proofs
namespace Go.Proofs.YtngphcdhdllnnaaGreat.E.M
/-- a path's variables -/
def pthS : List Int → Mk → List Int → Mk × List Int
  | [], m, l => (m, l)
  | x :: r, m, l => pthS r (freshM m x) (l ++ [(m.vals.length : Int)])
theorem pthS_ok {k : Nat} : ∀ (V : List Int) (m : Mk) (l : List Int), Mok (V.length + k) m → Mok k (pthS V m l).1
  | [], m, l, h => by simpa [pthS] using h
  | x :: r, m, l, h => pthS_ok r _ _ (Mok.fresh (Mok.mono h (by simp; omega)) x)
theorem pthS_len : ∀ (V : List Int) (m : Mk) (l : List Int), (pthS V m l).2.length = l.length + V.length
  | [], m, l => rfl
  | x :: r, m, l => by unfold pthS; rw [pthS_len r]; simp; omega
theorem bitS_len (a : Int) : ∀ (n j : Nat) (m : Mk) (l : List Int) (s : List Tm), (bitS a n j m l s).2.1.length = l.length + n
  | 0, _, _, _, _ => rfl
  | n + 1, j, m, l, s => by unfold bitS; rw [bitS_len a n]; simp; omega
/-- a path gone up -/
def clmS : List Int → List Int → Mk → Int → Mk × Int
  | b :: bs, p :: ps, m, h => clmS bs ps (twoM (choM (choM m b p h) b h p) m.vals.length (choM m b p h).vals.length) (twoR (choM (choM m b p h) b h p) m.vals.length (choM m b p h).vals.length)
  | _, _, m, h => (m, h)
theorem clmS_ok {k : Nat} : ∀ (B P : List Int) (m : Mk) (h : Int), Mok (18 * P.length + k) m → Mok k (clmS B P m h).1
  | [], [], m, h, o => by simpa [clmS] using o
  | [], p :: ps, m, h, o => by simp only [clmS]; exact Mok.mono o (by omega)
  | b :: bs, [], m, h, o => by simpa [clmS] using o
  | b :: bs, p :: ps, m, h, o => clmS_ok bs ps _ _ (twoM_ok (Mok.cho (Mok.cho (Mok.mono o (by simp; omega)) _ _ _) _ _ _) _ _)
theorem lin_nil {m : Mk} (hm : Mok 2 m) : Fn Tryz.prog 35 [.ptr 0 0, .val (.slice none 0 0)] [(0, mkB m 1 2), (1, rwB m.rows), (2, vlB m.vals)] (Tells (i m.vals.length) (mkOut (linM m []))) :=
  (gadget_Maker_Linear_c hm tok_0).wk (Wks.cons (Wk.refl _) (Wks.cons Wk.nilS Wks.nil))
def inpM (m : Mk) (k v o rh a : Int) (p : List Int) (d ro si en an : Int) : Mk :=
  let q1 := freshM m k
  let q2 := freshM q1 v
  let q3 := freshM q2 o
  let q4 := freshM q3 rh
  let q5 := freshM q4 a
  let q6 := (pthS p q5 []).1
  let P := (pthS p q5 []).2
  let q7 := linM q6 [⟨0, 1⟩]
  let q8 := twoM q7 m.vals.length q6.vals.length
  let hi := twoR q7 m.vals.length q6.vals.length
  let q9 := linM q8 [⟨0, 2⟩]
  let q10 := twoM q9 m.vals.length q8.vals.length
  let ow := twoR q9 m.vals.length q8.vals.length
  let q11 := sameM q10 ow q2.vals.length
  let q12 := (manE q11 [q1.vals.length, q2.vals.length, q3.vals.length]).1
  let h12 := (manE q11 [q1.vals.length, q2.vals.length, q3.vals.length]).2
  let q13 := bitM q12 q4.vals.length d
  let B := (bitE q12 q4.vals.length d).2.1
  let q14 := (clmS B P q13 h12).1
  let h14 := (clmS B P q13 h12).2
  let q15 := linM q14 (sumS 0 288230376287764480 [h14, ro])
  let q16 := mulM q15 q1.vals.length q14.vals.length
  let q17 := linM q16 []
  let q18 := sameM q17 q15.vals.length q16.vals.length
  let q19 := (manE q18 [hi, q3.vals.length, q4.vals.length]).1
  let h19 := (manE q18 [hi, q3.vals.length, q4.vals.length]).2
  let q20 := sameM q19 h19 en
  let q21 := twoM q20 hi si
  let an' := twoR q20 hi si
  sameM q21 an' an
theorem inpM_ok {j : Nat} {m : Mk} (h : Mok (900 + j) m) (k v o rh a : Int) {p : List Int} (hp : p.length ≤ 16) (d ro si en an : Int) : Mok j (inpM m k v o rh a p d ro si en an) := by
  unfold inpM
  have o1 := Mok.fresh (k := 899 + j) (Mok.mono h (by omega)) k
  have o2 := Mok.fresh (k := 898 + j) (Mok.mono o1 (by omega)) v
  have o3 := Mok.fresh (k := 897 + j) (Mok.mono o2 (by omega)) o
  have o4 := Mok.fresh (k := 896 + j) (Mok.mono o3 (by omega)) rh
  have o5 := Mok.fresh (k := 895 + j) (Mok.mono o4 (by omega)) a
  have o6 := pthS_ok (k := 879 + j) p _ [] (Mok.mono o5 (by omega))
  have l6 := pthS_len p (freshM (freshM (freshM (freshM (freshM m k) v) o) rh) a) []
  simp only [List.length_nil, Nat.zero_add] at l6
  have hP : (pthS p (freshM (freshM (freshM (freshM (freshM m k) v) o) rh) a) []).2.length ≤ 16 := by omega
  simp only
  generalize (pthS p (freshM (freshM (freshM (freshM (freshM m k) v) o) rh) a) []).2 = P at *
  generalize (pthS p (freshM (freshM (freshM (freshM (freshM m k) v) o) rh) a) []).1 = q6 at *
  have o7 := Mok.lin (k := 877 + j) (Mok.mono o6 (by omega)) [⟨0, 1⟩]
  have o8 := twoM_ok (k := 863 + j) (Mok.mono o7 (by omega)) m.vals.length q6.vals.length
  generalize linM q6 [⟨0, 1⟩] = q7 at *
  generalize twoR q7 m.vals.length q6.vals.length = hi at *
  generalize twoM q7 m.vals.length q6.vals.length = q8 at *
  have o9 := Mok.lin (k := 861 + j) (Mok.mono o8 (by omega)) [⟨0, 2⟩]
  generalize linM q8 [⟨0, 2⟩] = q9 at *
  have o10 := twoM_ok (k := 847 + j) (Mok.mono o9 (by omega)) m.vals.length q8.vals.length
  generalize twoR q9 m.vals.length q8.vals.length = ow at *
  generalize twoM q9 m.vals.length q8.vals.length = q10 at *
  have o11 : Mok (846 + j) (sameM q10 ow (freshM (freshM m k) v).vals.length) := Mok.row (Mok.mono o10 (by omega)) _ _ _
  generalize sameM q10 ow (freshM (freshM m k) v).vals.length = q11 at *
  have o12 := manE_ok (k := 802 + j) (V := [(freshM m k).vals.length, (freshM (freshM m k) v).vals.length, (freshM (freshM (freshM m k) v) o).vals.length]) (Mok.mono o11 (by simp; omega))
  generalize manE q11 _ = e12 at *
  have o13 := bitM_ok (k := 685 + j) (Mok.mono o12 (by omega)) (freshM (freshM (freshM (freshM m k) v) o) rh).vals.length d
  generalize bitM e12.1 _ d = q13 at *
  generalize (bitE e12.1 _ d).2.1 = B at *
  have o14 := clmS_ok (k := 397 + j) B P q13 e12.2 (Mok.mono o13 (by omega))
  generalize clmS B P q13 e12.2 = e14 at *
  have o15 := Mok.lin (k := 395 + j) (Mok.mono o14 (by omega)) (sumS 0 288230376287764480 [e14.2, ro])
  generalize linM e14.1 _ = q15 at *
  have o16 : Mok (393 + j) (mulM q15 (freshM m k).vals.length e14.1.vals.length) := Mok.prod (Mok.mono o15 (by omega)) _ _
  generalize mulM q15 _ _ = q16 at *
  have o17 := Mok.lin (k := 391 + j) (Mok.mono o16 (by omega)) []
  generalize linM q16 [] = q17 at *
  have o18 : Mok (390 + j) (sameM q17 q15.vals.length q16.vals.length) := Mok.row (Mok.mono o17 (by omega)) _ _ _
  generalize sameM q17 q15.vals.length q16.vals.length = q18 at *
  have o19 := manE_ok (k := 346 + j) (V := [hi, (freshM (freshM (freshM m k) v) o).vals.length, (freshM (freshM (freshM (freshM m k) v) o) rh).vals.length]) (Mok.mono o18 (by simp; omega))
  generalize manE q18 _ = e19 at *
  have o20 : Mok (345 + j) (sameM e19.1 e19.2 en) := Mok.row (Mok.mono o19 (by omega)) _ _ _
  generalize sameM e19.1 e19.2 en = q20 at *
  have o21 := twoM_ok (k := 331 + j) (Mok.mono o20 (by omega)) hi si
  exact Mok.row (Mok.mono o21 (by omega)) _ _ _

set_option maxHeartbeats 16000000 in
theorem circuit_input_c {m : Mk} {k v o rh a : Int} {p : List Int} {d ro si en an : Int} (o0 : Mok 900 m) (wk : w64 k) (wv : w64 v) (wo : w64 o) (wr : w64 rh) (ha : 0 ≤ a ∧ a < 9223372036854775808) (hp : wV p) (lp : p.length ≤ 16) (ld : d = p.length) : Fn Tryz.prog 28 [.ptr 0 0, .agg [u k, u v, u o, u rh, i a, ul p], i d, i ro, i si, i en, i an] [(0, mkB m 1 2), (1, rwB m.rows), (2, vlB m.vals)] (Tells (i (freshM m k).vals.length) (mkOut (inpM m k v o rh a p d ro si en an))) := by
  refine Fn.enter Tryz.func28 Tryz.ntmps28 rfl (h := ?_)
  have tf := tfm
  have ot_ : (false || true) = true := rfl
  subst ld
  have tf1 := tfn
  have tfr := tfr
  have wa : w64 a := ⟨ha.1, by omega⟩
  have ea : IntKind.u64.wrap a = a := i64_o ha.1 ha.2
  obtain ⟨q1, h_q1⟩ : ∃ x, x = freshM m k := ⟨_, rfl⟩
  obtain ⟨v0, h_v0⟩ : ∃ x : Int, x = (m.vals.length : Int) := ⟨_, rfl⟩
  have c1 := gadget_Maker_Private_c (m := m) (x := k) (Mok.mono o0 (by decide)) wk
  rw [← h_q1, ← h_v0] at c1
  have o1 : Mok 899 q1 := by rw [h_q1]; exact Mok.fresh (Mok.mono o0 (by decide)) _
  replace h_q1 : id (q1 = freshM m k) := h_q1
  replace h_v0 : id (v0 = (m.vals.length : Int)) := h_v0
  obtain ⟨q2, h_q2⟩ : ∃ x, x = freshM q1 v := ⟨_, rfl⟩
  obtain ⟨v1, h_v1⟩ : ∃ x : Int, x = (q1.vals.length : Int) := ⟨_, rfl⟩
  have c2 := gadget_Maker_Private_c (m := q1) (x := v) (Mok.mono o1 (by decide)) wv
  rw [← h_q2, ← h_v1] at c2
  have o2 : Mok 898 q2 := by rw [h_q2]; exact Mok.fresh (Mok.mono o1 (by decide)) _
  replace h_q2 : id (q2 = freshM q1 v) := h_q2
  replace h_v1 : id (v1 = (q1.vals.length : Int)) := h_v1
  obtain ⟨q3, h_q3⟩ : ∃ x, x = freshM q2 o := ⟨_, rfl⟩
  obtain ⟨v2, h_v2⟩ : ∃ x : Int, x = (q2.vals.length : Int) := ⟨_, rfl⟩
  have c3 := gadget_Maker_Private_c (m := q2) (x := o) (Mok.mono o2 (by decide)) wo
  rw [← h_q3, ← h_v2] at c3
  have o3 : Mok 897 q3 := by rw [h_q3]; exact Mok.fresh (Mok.mono o2 (by decide)) _
  replace h_q3 : id (q3 = freshM q2 o) := h_q3
  replace h_v2 : id (v2 = (q2.vals.length : Int)) := h_v2
  obtain ⟨q4, h_q4⟩ : ∃ x, x = freshM q3 rh := ⟨_, rfl⟩
  obtain ⟨v3, h_v3⟩ : ∃ x : Int, x = (q3.vals.length : Int) := ⟨_, rfl⟩
  have c4 := gadget_Maker_Private_c (m := q3) (x := rh) (Mok.mono o3 (by decide)) wr
  rw [← h_q4, ← h_v3] at c4
  have o4 : Mok 896 q4 := by rw [h_q4]; exact Mok.fresh (Mok.mono o3 (by decide)) _
  replace h_q4 : id (q4 = freshM q3 rh) := h_q4
  replace h_v3 : id (v3 = (q3.vals.length : Int)) := h_v3
  obtain ⟨q5, h_q5⟩ : ∃ x, x = freshM q4 a := ⟨_, rfl⟩
  obtain ⟨v4, h_v4⟩ : ∃ x : Int, x = (q4.vals.length : Int) := ⟨_, rfl⟩
  have c5 := gadget_Maker_Private_c (m := q4) (x := a) (Mok.mono o4 (by decide)) wa
  rw [← h_q5, ← h_v4] at c5
  have o5 : Mok 895 q5 := by rw [h_q5]; exact Mok.fresh (Mok.mono o4 (by decide)) _
  replace h_q5 : id (q5 = freshM q4 a) := h_q5
  replace h_v4 : id (v4 = (q4.vals.length : Int)) := h_v4
  refine AW.mv 1 1001 (h := ?_)
  refine AW.mv 2 1002 (h := ?_)
  repeat refine AW.seq ?_
  refine AW.reg ?_
  iterate 2 refine AOL.s1 (h := ?_)
  refine AOL.nil ?_
  refine AW.kq [0, 2, 3, 4, 5, 6, 8] (h := ?_)
  repeat refine AW.seq ?_
  refine AW.dM 23 [(1128, ⟨27, true, [u k, u v, u o, u rh, i a, ul p]⟩)] [1001, 1002, 1001, 1002] (by kernel_rfl) (h := ?_)
  iterate 3 refine ADM.dm (h := ?_)
  refine ADM.callM (l := 0) (b := 1000) (c1) rfl (by kernel_rfl) rfl rfl rfl rfl rfl rfl rfl rfl (by simp only [St.drops, St.drop, mapT, mapH, kill, kills, del, ins, reduceIte, Nat.reduceAdd, Nat.reduceLT, Nat.reduceEqDiff, Bool.false_eq_true]; exact rfl) (by simp only [List.cons_append, List.nil_append, List.length_cons, List.length_nil, Nat.zero_add, Nat.reduceAdd]; exact rfl) (by simp only [List.cons_append, List.nil_append, List.length_cons, List.length_nil, Nat.zero_add, Nat.reduceAdd]; exact rfl) ?_
  iterate 4 refine ADM.dm (h := ?_)
  refine ADM.callM (l := 0) (b := 1000) (c2) rfl (by kernel_rfl) rfl rfl rfl rfl rfl rfl rfl rfl (by simp only [St.drops, St.drop, mapT, mapH, kill, kills, del, ins, reduceIte, Nat.reduceAdd, Nat.reduceLT, Nat.reduceEqDiff, Bool.false_eq_true]; exact rfl) (by simp only [List.cons_append, List.nil_append, List.length_cons, List.length_nil, Nat.zero_add, Nat.reduceAdd]; exact rfl) (by simp only [List.cons_append, List.nil_append, List.length_cons, List.length_nil, Nat.zero_add, Nat.reduceAdd]; exact rfl) ?_
  iterate 4 refine ADM.dm (h := ?_)
  refine ADM.callM (l := 0) (b := 1000) (c3) rfl (by kernel_rfl) rfl rfl rfl rfl rfl rfl rfl rfl (by simp only [St.drops, St.drop, mapT, mapH, kill, kills, del, ins, reduceIte, Nat.reduceAdd, Nat.reduceLT, Nat.reduceEqDiff, Bool.false_eq_true]; exact rfl) (by simp only [List.cons_append, List.nil_append, List.length_cons, List.length_nil, Nat.zero_add, Nat.reduceAdd]; exact rfl) (by simp only [List.cons_append, List.nil_append, List.length_cons, List.length_nil, Nat.zero_add, Nat.reduceAdd]; exact rfl) ?_
  iterate 4 refine ADM.dm (h := ?_)
  refine ADM.callM (l := 0) (b := 1000) (c4) rfl (by kernel_rfl) rfl rfl rfl rfl rfl rfl rfl rfl (by simp only [St.drops, St.drop, mapT, mapH, kill, kills, del, ins, reduceIte, Nat.reduceAdd, Nat.reduceLT, Nat.reduceEqDiff, Bool.false_eq_true]; exact rfl) (by simp only [List.cons_append, List.nil_append, List.length_cons, List.length_nil, Nat.zero_add, Nat.reduceAdd]; exact rfl) (by simp only [List.cons_append, List.nil_append, List.length_cons, List.length_nil, Nat.zero_add, Nat.reduceAdd]; exact rfl) ?_
  iterate 4 refine ADM.dm (h := ?_)
  refine ADM.done hmix (by kernel_rfl) rfl (by simp only [chainP, and_self, and_true]) rfl ⟨by simp [List.forall_mem_cons], by simp [List.forall_mem_cons]⟩ (by intro l_ hl_; simp only [List.mem_cons, List.not_mem_nil, or_false] at hl_; rcases hl_ with rfl | rfl | rfl | rfl <;> rfl) (by intro l_ hl_; simp only [List.mem_cons, List.not_mem_nil, or_false] at hl_; rcases hl_ with rfl | rfl | rfl | rfl <;> rfl) (hT := ?_)
  refine AOL.callM (l := 0) (b := 1000) (c5) rfl (by kernel_rfl) rfl rfl rfl rfl rfl (hst := by simp only [St.drops, St.drop, mapT, mapH, kill, kills, del, St.put, ins, reduceIte, Nat.reduceAdd, Nat.reduceLT, Nat.reduceEqDiff, Bool.false_eq_true]; exact rfl) ?_
  iterate 5 refine AOL.s1 (h := ?_)
  refine AOL.nil ?_
  refine AW.kq [0, 2, 3, 4, 5, 6, 8, 15, 16, 17, 18, 19] (h := ?_)
  repeat refine AW.seq ?_
  refine AW.reg ?_
  iterate 1 refine AOL.s1 (h := ?_)
  refine AOL.nil ?_
  refine AW.kq [0, 2, 3, 4, 5, 6, 8, 15, 16, 17, 18, 19, 20] (h := ?_)
  repeat refine AW.seq ?_
  refine AW.reg ?_
  iterate 4 refine AOL.s1 (h := ?_)
  refine AOL.nil ?_
  refine AW.kq [0, 2, 3, 4, 5, 6, 15, 16, 17, 18, 19, 20, 57, 58, 59] (h := ?_)
  repeat refine AW.seq ?_
  refine AW.block ?_
  repeat refine AW.seq ?_
  refine AW.born 20 9003 3 1 (.inl rfl) (h := ?_)
  refine AW.loopK [0, 2, 3, 4, 5, 6, 15, 16, 17, 18, 19, 20, 57, 58, 59] (fun n' s => ∃ (j : Nat) (q : Mk) (l : List Int) (r : List Int), s = ⟨156, [(0, .ptr 0 0), (2, i p.length), (3, i ro), (4, i si), (5, i en), (6, i an), (15, i v0), (16, i v1), (17, i v2), (18, i v3), (19, i v4), (20, .ref 9003 0 j 1), (57, ul p), (58, i p.length), (59, i j)], [(0, mkB q 1001 1002), (1001, rwB q.rows), (1002, vlB q.vals), (1128, ⟨27, true, [u k, u v, u o, u rh, i a, ul p]⟩), (9003, ⟨3, false, fm i1 l⟩)]⟩ ∧ p.drop j = r ∧ j ≤ p.length ∧ n' = r.length ∧ l.length = j ∧ Mok (r.length + 879) q ∧ id (pthS r q l = pthS p q5 []) ∧ id (n' = n')) (p.length) ?_ ?_
  · exact ⟨0, q5, [], p, rfl, rfl, Nat.zero_le _, rfl, rfl, Mok.mono o5 (by omega), rfl, rfl⟩
  rintro n' s ⟨j, q, l, r, rfl, hr, hjl, rfl, hl, oq, hs, _⟩
  repeat refine AW.seq ?_
  refine AW.reg ?_
  iterate 1 refine AOL.s1 (h := ?_)
  refine AOL.nil ?_
  refine AW.kq [0, 2, 3, 4, 5, 6, 15, 16, 17, 18, 19, 20, 57, 58, 59, 60] (h := ?_)
  repeat refine AW.seq ?_
  refine AW.cond rfl (fun c_ => ?_) (fun c_ => ?_)
  · obtain ⟨z, r, rfl⟩ := ends_cons hr hjl (by simpa using c_)
    obtain ⟨hlt, hr', hz⟩ := dconsq hr
    have hw := incq hlt (by omega)
    have k0 : (0:Int) ≤ j := by omega
    have k1 : (j:Int) < p.length := by omega
    have hd1 : (fm u1 p).drop (j * 1) = u z :: fm u1 r := fm_drop u1_len hr
    have hd' : (fm u1 p).drop j = u z :: fm u1 r := by simpa using hd1
    clear hd1 hr
    have wz : w64 z := hp z (List.mem_of_getElem? hz)
    have ll : (fm i1 l).length = j := by rw [fm_len i1_len, Nat.mul_one, hl]
    have o1 : (j + 1) * 8 ≤ 140737488355328 := by omega
    have o3 : j ≤ 4611686018427387903 := by omega
    have o2 : j + 1 ≤ 4611686018427387904 := by omega
    have cq := gadget_Maker_Private_c (m := q) (x := z) (Mok.mono oq (by omega)) wz
    refine AW.skip ?_
    repeat refine AW.seq ?_
    refine AW.block ?_
    repeat refine AW.seq ?_
    refine AW.reg ?_
    iterate 3 refine AOL.s1 (h := ?_)
    refine AOL.nil ?_
    refine AW.kq [0, 2, 3, 4, 5, 6, 15, 16, 17, 18, 19, 20, 22, 57, 58, 59] (h := ?_)
    repeat refine AW.seq ?_
    refine AW.reg ?_
    iterate 3 refine AOL.s1 (h := ?_)
    refine AOL.callM (l := 0) (b := 1000) (cq) rfl (by kernel_rfl) rfl rfl rfl rfl rfl (hst := by simp only [St.drops, St.drop, mapT, mapH, kill, kills, del, St.put, ins, reduceIte, Nat.reduceAdd, Nat.reduceLT, Nat.reduceEqDiff, Bool.false_eq_true]; exact rfl) ?_
    iterate 3 refine AOL.s1 (h := ?_)
    refine AOL.nil ?_
    repeat refine AW.seq ?_
    refine AW.let 2072 (h := ?_)
    refine AW.reg ?_
    iterate 2 refine AOL.s1 (h := ?_)
    refine AOL.nil ?_
    refine ⟨r.length, by simp, j + 1, freshM q z, l ++ [(q.vals.length : Int)], r, ?_, hr', hlt, rfl, by rw [List.length_append, hl]; rfl, Mok.fresh (Mok.mono oq (by simp)) _, hs, rfl⟩
    rw [fmi_snoc]; rfl
  · obtain rfl := ends_nil hr (by simpa using c_)
    have hs' : pthS p q5 [] = (q, l) := by rw [← show _ = _ from hs]; rfl
    clear hs
    have lP : l.length = p.length := by
      have := pthS_len p q5 []
      rw [hs'] at this; simpa using this
    have jl : j = p.length := by omega
    subst jl
    have hfl : AV.sl p.length (sub 0 (p.length * 1) (fm i1 l)) = il l := by rw [← lP, sub_all (by rw [fm_len i1_len]; exact Nat.le_refl _)]
    refine AW.fz 9003 rfl (fun h => by cases h) (h := ?_)
    rw [hfl]
    clear hfl hl hr
    replace hs' : id (pthS p q5 [] = (q, l)) := hs'
    replace oq : Mok 879 q := Mok.mono oq (by omega)
    obtain ⟨q7, h_q7⟩ : ∃ x, x = linM q [⟨0, 1⟩] := ⟨_, rfl⟩
    obtain ⟨k1, h_k1⟩ : ∃ x : Int, x = (q.vals.length : Int) := ⟨_, rfl⟩
    have c7 := gadget_Maker_Linear_c (m := q) (L := [⟨0, 1⟩]) (Mok.mono oq (by decide)) (⟨by simp, fun t ht => by simp only [List.mem_singleton] at ht; subst ht; exact ⟨by decide, by decide⟩⟩)
    rw [← h_q7, ← h_k1] at c7
    have o7 : Mok 877 q7 := by rw [h_q7]; exact Mok.lin (Mok.mono oq (by decide)) _
    replace h_q7 : id (q7 = linM q [⟨0, 1⟩]) := h_q7
    replace h_k1 : id (k1 = (q.vals.length : Int)) := h_k1
    obtain ⟨q8, h_q8⟩ : ∃ x, x = twoM q7 v0 k1 := ⟨_, rfl⟩
    obtain ⟨hi, h_hi⟩ : ∃ x : Int, x = twoR q7 v0 k1 := ⟨_, rfl⟩
    have c8 := gadget_Maker_Two_c (m := q7) (a := v0) (b := k1) (Mok.mono o7 (by decide))
    rw [← h_q8, ← h_hi] at c8
    have o8 : Mok 863 q8 := by rw [h_q8]; exact twoM_ok (Mok.mono o7 (by decide)) _ _
    replace h_q8 : id (q8 = twoM q7 v0 k1) := h_q8
    replace h_hi : id (hi = twoR q7 v0 k1) := h_hi
    obtain ⟨q9, h_q9⟩ : ∃ x, x = linM q8 [⟨0, 2⟩] := ⟨_, rfl⟩
    obtain ⟨k2, h_k2⟩ : ∃ x : Int, x = (q8.vals.length : Int) := ⟨_, rfl⟩
    have c9 := gadget_Maker_Linear_c (m := q8) (L := [⟨0, 2⟩]) (Mok.mono o8 (by decide)) (⟨by simp, fun t ht => by simp only [List.mem_singleton] at ht; subst ht; exact ⟨by decide, by decide⟩⟩)
    rw [← h_q9, ← h_k2] at c9
    have o9 : Mok 861 q9 := by rw [h_q9]; exact Mok.lin (Mok.mono o8 (by decide)) _
    replace h_q9 : id (q9 = linM q8 [⟨0, 2⟩]) := h_q9
    replace h_k2 : id (k2 = (q8.vals.length : Int)) := h_k2
    obtain ⟨q10, h_q10⟩ : ∃ x, x = twoM q9 v0 k2 := ⟨_, rfl⟩
    obtain ⟨ow, h_ow⟩ : ∃ x : Int, x = twoR q9 v0 k2 := ⟨_, rfl⟩
    have c10 := gadget_Maker_Two_c (m := q9) (a := v0) (b := k2) (Mok.mono o9 (by decide))
    rw [← h_q10, ← h_ow] at c10
    have o10 : Mok 847 q10 := by rw [h_q10]; exact twoM_ok (Mok.mono o9 (by decide)) _ _
    replace h_q10 : id (q10 = twoM q9 v0 k2) := h_q10
    replace h_ow : id (ow = twoR q9 v0 k2) := h_ow
    obtain ⟨q11, h_q11⟩ : ∃ x, x = sameM q10 ow v2 := ⟨_, rfl⟩
    have c11 := gadget_Maker_Same_c (m := q10) (a := ow) (b := v2) (Mok.mono o10 (by decide))
    rw [← h_q11] at c11
    have o11 : Mok 846 q11 := by rw [h_q11]; exact Mok.row (Mok.mono o10 (by decide)) _ _ _
    replace h_q11 : id (q11 = sameM q10 ow v2) := h_q11
    obtain ⟨q12, h_q12⟩ : ∃ x, x = (manE q11 [v1, v2, v3]).1 := ⟨_, rfl⟩
    obtain ⟨h12, h_h12⟩ : ∃ x : Int, x = (manE q11 [v1, v2, v3]).2 := ⟨_, rfl⟩
    have c12 := gadget_Maker_Many_c (m := q11) (V := [v1, v2, v3]) (Mok.mono o11 (by simp))
    rw [← h_q12, ← h_h12] at c12
    have o12 : Mok 802 q12 := by rw [h_q12]; exact manE_ok (Mok.mono o11 (by simp))
    replace h_q12 : id (q12 = (manE q11 [v1, v2, v3]).1) := h_q12
    replace h_h12 : id (h12 = (manE q11 [v1, v2, v3]).2) := h_h12
    obtain ⟨q13, h_q13⟩ : ∃ x, x = bitM q12 v4 p.length := ⟨_, rfl⟩
    have c13 := gadget_Maker_Bits_c (m := q12) (a := v4) (n := p.length) (Mok.mono o12 (by decide))
    rw [← h_q13] at c13
    have o13 : Mok 685 q13 := by rw [h_q13]; exact bitM_ok (Mok.mono o12 (by decide)) _ _
    replace h_q13 : id (q13 = bitM q12 v4 p.length) := h_q13
    obtain ⟨bs0, h_bs0⟩ : ∃ x, x = (bitE q12 v4 p.length).2.1 := ⟨_, rfl⟩
    rw [← h_bs0] at c13
    have lB : bs0.length = p.length := by
      rw [h_bs0]
      have := bitS_len (isM q12.vals v4) (bitN p.length) 0 q12 [] []
      have e : bitN p.length = p.length := by
        have h : bitN (p.length : Int) = (p.length : Int).toNat := if_neg (by omega)
        rw [h]; omega
      show (bitS (isM q12.vals v4) (bitN p.length) 0 q12 [] []).2.1.length = _
      rw [e] at this ⊢; simpa using this
    replace h_bs0 : id (bs0 = (bitE q12 v4 p.length).2.1) := h_bs0
    rw [show il bs0 = AV.sl p.length (fm i1 bs0) by rw [← lB]] at c13
    repeat refine AW.seq ?_
    refine AW.exit ?_
    repeat (first | refine Kseq.ex ?_ | refine Kloop.ex ?_ | refine Kblock.miss (by decide) ?_)
    refine Kblock.hit ?_
    refine AW.kq [0, 2, 3, 4, 5, 6, 15, 16, 17, 18, 19, 20] (h := ?_)
    repeat refine AW.seq ?_
    refine AW.reg ?_
    iterate 5 refine AOL.s1 (h := ?_)
    refine AOL.fz 2184 rfl (fun h => by cases h) (h := ?_)
    refine AOL.callM (l := 0) (b := 1000) (c7) rfl (by kernel_rfl) rfl rfl rfl rfl rfl (hst := by simp only [St.drops, St.drop, mapT, mapH, kill, kills, del, St.put, ins, reduceIte, Nat.reduceAdd, Nat.reduceLT, Nat.reduceEqDiff, Bool.false_eq_true]; exact rfl) ?_
    refine AOL.callM (l := 0) (b := 1000) (c8) rfl (by kernel_rfl) rfl rfl rfl rfl rfl (hst := by simp only [St.drops, St.drop, mapT, mapH, kill, kills, del, St.put, ins, reduceIte, Nat.reduceAdd, Nat.reduceLT, Nat.reduceEqDiff, Bool.false_eq_true]; exact rfl) ?_
    iterate 1 refine AOL.s1 (h := ?_)
    refine AOL.nil ?_
    refine AW.kq [0, 2, 3, 4, 5, 6, 15, 16, 17, 18, 19, 20, 23] (h := ?_)
    repeat refine AW.seq ?_
    refine AW.reg ?_
    iterate 5 refine AOL.s1 (h := ?_)
    refine AOL.fz 2296 rfl (fun h => by cases h) (h := ?_)
    refine AOL.callM (l := 0) (b := 1000) (c9) rfl (by kernel_rfl) rfl rfl rfl rfl rfl (hst := by simp only [St.drops, St.drop, mapT, mapH, kill, kills, del, St.put, ins, reduceIte, Nat.reduceAdd, Nat.reduceLT, Nat.reduceEqDiff, Bool.false_eq_true]; exact rfl) ?_
    refine AOL.callM (l := 0) (b := 1000) (c10) rfl (by kernel_rfl) rfl rfl rfl rfl rfl (hst := by simp only [St.drops, St.drop, mapT, mapH, kill, kills, del, St.put, ins, reduceIte, Nat.reduceAdd, Nat.reduceLT, Nat.reduceEqDiff, Bool.false_eq_true]; exact rfl) ?_
    iterate 1 refine AOL.s1 (h := ?_)
    refine AOL.nil ?_
    refine AW.kq [0, 2, 3, 4, 5, 6, 16, 17, 18, 19, 20, 23, 24] (h := ?_)
    repeat refine AW.seq ?_
    refine AW.reg ?_
    iterate 3 refine AOL.s1 (h := ?_)
    refine AOL.callM (l := 0) (b := 1000) (c11) rfl (by kernel_rfl) rfl rfl rfl rfl rfl (hst := by simp only [St.drops, St.drop, mapT, mapH, kill, kills, del, St.put, ins, reduceIte, Nat.reduceAdd, Nat.reduceLT, Nat.reduceEqDiff, Bool.false_eq_true]; exact rfl) ?_
    refine AOL.nil ?_
    refine AW.kq [0, 2, 3, 4, 5, 6, 16, 17, 18, 19, 20, 23] (h := ?_)
    repeat refine AW.seq ?_
    refine AW.reg ?_
    iterate 5 refine AOL.s1 (h := ?_)
    refine AOL.fz 2472 rfl (fun h => by cases h) (h := ?_)
    refine AOL.callM (l := 0) (b := 1000) (c12) rfl (by kernel_rfl) rfl rfl rfl rfl rfl (hst := by simp only [St.drops, St.drop, mapT, mapH, kill, kills, del, St.put, ins, reduceIte, Nat.reduceAdd, Nat.reduceLT, Nat.reduceEqDiff, Bool.false_eq_true]; exact rfl) ?_
    iterate 1 refine AOL.s1 (h := ?_)
    refine AOL.nil ?_
    refine AW.kq [0, 2, 3, 4, 5, 6, 16, 18, 19, 20, 23, 25] (h := ?_)
    repeat refine AW.seq ?_
    refine AW.reg ?_
    iterate 3 refine AOL.s1 (h := ?_)
    refine AOL.callM (l := 0) (b := 1000) (c13) rfl (by kernel_rfl) rfl rfl rfl rfl rfl (hst := by simp only [St.drops, St.drop, mapT, mapH, kill, kills, del, St.put, ins, reduceIte, Nat.reduceAdd, Nat.reduceLT, Nat.reduceEqDiff, Bool.false_eq_true]; exact rfl) ?_
    iterate 1 refine AOL.s1 (h := ?_)
    refine AOL.nil ?_
    refine AW.kq [0, 3, 4, 5, 6, 16, 18, 19, 20, 23, 25, 26] (h := ?_)
    repeat refine AW.seq ?_
    refine AW.reg ?_
    iterate 3 refine AOL.s1 (h := ?_)
    refine AOL.nil ?_
    refine AW.kq [0, 3, 4, 5, 6, 16, 18, 19, 23, 25, 26, 98, 99, 100] (h := ?_)
    repeat refine AW.seq ?_
    refine AW.block ?_
    repeat refine AW.seq ?_
    refine AW.loopK [0, 3, 4, 5, 6, 16, 18, 19, 23, 25, 26, 98, 99, 100] (fun n' s => ∃ (j : Nat) (g : Mk) (h : Int) (bs ps : List Int), s = ⟨156, [(0, .ptr 0 0), (3, i ro), (4, i si), (5, i en), (6, i an), (16, i v1), (18, i v3), (19, i v4), (23, i hi), (25, i h), (26, .sl p.length (fm i1 bs0)), (98, .sl p.length (fm i1 l)), (99, i p.length), (100, i j)], [(0, mkB g 1001 1002), (1001, rwB g.rows), (1002, vlB g.vals), (1128, ⟨27, true, [u k, u v, u o, u rh, i a, ul p]⟩)]⟩ ∧ bs0.drop j = bs ∧ l.drop j = ps ∧ j ≤ l.length ∧ n' = ps.length ∧ Mok (18 * ps.length + 397) g ∧ id (clmS bs ps g h = clmS bs0 l q13 h12) ∧ id (n' = n')) (p.length) ?_ ?_
    · exact ⟨0, q13, h12, bs0, l, rfl, rfl, rfl, Nat.zero_le _, lP.symm, Mok.mono o13 (by omega), rfl, rfl⟩
    rintro n' s ⟨j, g, h, bs, ps, rfl, hb, hr, hjl, rfl, og, hs, _⟩
    repeat refine AW.seq ?_
    refine AW.reg ?_
    iterate 1 refine AOL.s1 (h := ?_)
    refine AOL.nil ?_
    refine AW.kq [0, 3, 4, 5, 6, 16, 18, 19, 23, 25, 26, 98, 99, 100, 101] (h := ?_)
    repeat refine AW.seq ?_
    refine AW.cond rfl (fun d_ => ?_) (fun d_ => ?_)
    · obtain ⟨z, ps, rfl⟩ := ends_cons hr hjl (by rw [lP]; simpa using d_)
      obtain ⟨hlt, hr', hz⟩ := dconsq hr
      obtain ⟨y, bs, rfl⟩ := ends_cons hb (by omega) (by rw [lB]; simpa using d_)
      obtain ⟨hlb, hb', hy⟩ := dconsq hb
      have hw := incq hlt (by omega)
      have k0 : (0:Int) ≤ j := by omega
      have k1' : (j:Int) < p.length := by omega
      have hd1 : (fm i1 l).drop (j * 1) = i z :: fm i1 ps := fm_drop i1_len hr
      have hd' : (fm i1 l).drop j = i z :: fm i1 ps := by simpa using hd1
      have he1 : (fm i1 bs0).drop (j * 1) = i y :: fm i1 bs := fm_drop i1_len hb
      have he' : (fm i1 bs0).drop j = i y :: fm i1 bs := by simpa using he1
      clear hd1 he1 hr hb
      have ca := gadget_Maker_Choose_c (m := g) (c := y) (a := z) (b := h) (Mok.mono og (by rw [List.length_cons]; omega))
      have cb := gadget_Maker_Choose_c (m := choM g y z h) (c := y) (a := h) (b := z) (Mok.cho (Mok.mono og (by rw [List.length_cons]; omega)) _ _ _)
      have oc : Mok (14 + (18 * ps.length + 397)) (choM (choM g y z h) y h z) := Mok.cho (Mok.cho (Mok.mono og (by rw [List.length_cons]; omega)) _ _ _) _ _ _
      have cc := gadget_Maker_Two_c (m := choM (choM g y z h) y h z) (a := g.vals.length) (b := (choM g y z h).vals.length) (Mok.mono oc (by omega))
      refine AW.skip ?_
      repeat refine AW.seq ?_
      refine AW.block ?_
      repeat refine AW.seq ?_
      refine AW.reg ?_
      iterate 5 refine AOL.s1 (h := ?_)
      refine AOL.nil ?_
      refine AW.kq [0, 3, 4, 5, 6, 16, 18, 19, 23, 25, 26, 27, 28, 98, 99, 100] (h := ?_)
      repeat refine AW.seq ?_
      refine AW.reg ?_
      iterate 7 refine AOL.s1 (h := ?_)
      refine AOL.callM (l := 0) (b := 1000) (ca) rfl (by kernel_rfl) rfl rfl rfl rfl rfl (hst := by simp only [St.drops, St.drop, mapT, mapH, kill, kills, del, St.put, ins, reduceIte, Nat.reduceAdd, Nat.reduceLT, Nat.reduceEqDiff, Bool.false_eq_true]; exact rfl) ?_
      iterate 1 refine AOL.s1 (h := ?_)
      refine AOL.nil ?_
      refine AW.kq [0, 3, 4, 5, 6, 16, 18, 19, 23, 25, 26, 27, 28, 29, 98, 99, 100] (h := ?_)
      repeat refine AW.seq ?_
      refine AW.reg ?_
      iterate 7 refine AOL.s1 (h := ?_)
      refine AOL.callM (l := 0) (b := 1000) (cb) rfl (by kernel_rfl) rfl rfl rfl rfl rfl (hst := by simp only [St.drops, St.drop, mapT, mapH, kill, kills, del, St.put, ins, reduceIte, Nat.reduceAdd, Nat.reduceLT, Nat.reduceEqDiff, Bool.false_eq_true]; exact rfl) ?_
      iterate 1 refine AOL.s1 (h := ?_)
      refine AOL.nil ?_
      refine AW.kq [0, 3, 4, 5, 6, 16, 18, 19, 23, 26, 29, 30, 98, 99, 100] (h := ?_)
      repeat refine AW.seq ?_
      refine AW.reg ?_
      iterate 3 refine AOL.s1 (h := ?_)
      refine AOL.callM (l := 0) (b := 1000) (cc) rfl (by kernel_rfl) rfl rfl rfl rfl rfl (hst := by simp only [St.drops, St.drop, mapT, mapH, kill, kills, del, St.put, ins, reduceIte, Nat.reduceAdd, Nat.reduceLT, Nat.reduceEqDiff, Bool.false_eq_true]; exact rfl) ?_
      iterate 1 refine AOL.s1 (h := ?_)
      refine AOL.nil ?_
      repeat refine AW.seq ?_
      refine AW.reg ?_
      iterate 2 refine AOL.s1 (h := ?_)
      refine AOL.nil ?_
      exact ⟨ps.length, by simp, j + 1, twoM (choM (choM g y z h) y h z) g.vals.length (choM g y z h).vals.length, twoR (choM (choM g y z h) y h z) g.vals.length (choM g y z h).vals.length, bs, ps, rfl, hb', hr', hlt, rfl, twoM_ok oc _ _, hs, rfl⟩
    · obtain rfl := ends_nil hr (by rw [lP]; simpa using d_)
      have hs14 : id (clmS bs0 l q13 h12 = (g, h)) := by rw [← show _ = _ from hs]; cases bs <;> rfl
      clear hs hb hr
      replace og : Mok 397 g := Mok.mono og (by omega)
      obtain ⟨q15, h_q15⟩ : ∃ x, x = linM g (sumS 0 288230376287764480 [h, ro]) := ⟨_, rfl⟩
      obtain ⟨k3, h_k3⟩ : ∃ x : Int, x = (g.vals.length : Int) := ⟨_, rfl⟩
      have c15 := circuit_sum_c (m := g) (k := 288230376287764480) (V := [h, ro]) (Mok.mono og (by decide)) w64_m1 (by simp)
      rw [← h_q15, ← h_k3] at c15
      have o15 : Mok 395 q15 := by rw [h_q15]; exact Mok.lin (Mok.mono og (by decide)) _
      replace h_q15 : id (q15 = linM g (sumS 0 288230376287764480 [h, ro])) := h_q15
      replace h_k3 : id (k3 = (g.vals.length : Int)) := h_k3
      obtain ⟨q16, h_q16⟩ : ∃ x, x = mulM q15 v1 k3 := ⟨_, rfl⟩
      obtain ⟨off, h_off⟩ : ∃ x : Int, x = (q15.vals.length : Int) := ⟨_, rfl⟩
      have c16 := gadget_Maker_Mul_c (m := q15) (a := v1) (b := k3) (Mok.mono o15 (by decide))
      rw [← h_q16, ← h_off] at c16
      have o16 : Mok 393 q16 := by rw [h_q16]; exact Mok.prod (Mok.mono o15 (by decide)) _ _
      replace h_q16 : id (q16 = mulM q15 v1 k3) := h_q16
      replace h_off : id (off = (q15.vals.length : Int)) := h_off
      obtain ⟨q17, h_q17⟩ : ∃ x, x = linM q16 [] := ⟨_, rfl⟩
      obtain ⟨k4, h_k4⟩ : ∃ x : Int, x = (q16.vals.length : Int) := ⟨_, rfl⟩
      have c17 := lin_nil (m := q16) (Mok.mono o16 (by decide))
      rw [← h_q17, ← h_k4] at c17
      have o17 : Mok 391 q17 := by rw [h_q17]; exact Mok.lin (Mok.mono o16 (by decide)) _
      replace h_q17 : id (q17 = linM q16 []) := h_q17
      replace h_k4 : id (k4 = (q16.vals.length : Int)) := h_k4
      obtain ⟨q18, h_q18⟩ : ∃ x, x = sameM q17 off k4 := ⟨_, rfl⟩
      have c18 := gadget_Maker_Same_c (m := q17) (a := off) (b := k4) (Mok.mono o17 (by decide))
      rw [← h_q18] at c18
      have o18 : Mok 390 q18 := by rw [h_q18]; exact Mok.row (Mok.mono o17 (by decide)) _ _ _
      replace h_q18 : id (q18 = sameM q17 off k4) := h_q18
      obtain ⟨q19, h_q19⟩ : ∃ x, x = (manE q18 [hi, v3, v4]).1 := ⟨_, rfl⟩
      obtain ⟨h19, h_h19⟩ : ∃ x : Int, x = (manE q18 [hi, v3, v4]).2 := ⟨_, rfl⟩
      have c19 := gadget_Maker_Many_c (m := q18) (V := [hi, v3, v4]) (Mok.mono o18 (by simp))
      rw [← h_q19, ← h_h19] at c19
      have o19 : Mok 346 q19 := by rw [h_q19]; exact manE_ok (Mok.mono o18 (by simp))
      replace h_q19 : id (q19 = (manE q18 [hi, v3, v4]).1) := h_q19
      replace h_h19 : id (h19 = (manE q18 [hi, v3, v4]).2) := h_h19
      obtain ⟨q20, h_q20⟩ : ∃ x, x = sameM q19 h19 en := ⟨_, rfl⟩
      have c20 := gadget_Maker_Same_c (m := q19) (a := h19) (b := en) (Mok.mono o19 (by decide))
      rw [← h_q20] at c20
      have o20 : Mok 345 q20 := by rw [h_q20]; exact Mok.row (Mok.mono o19 (by decide)) _ _ _
      replace h_q20 : id (q20 = sameM q19 h19 en) := h_q20
      obtain ⟨q21, h_q21⟩ : ∃ x, x = twoM q20 hi si := ⟨_, rfl⟩
      obtain ⟨an1, h_an1⟩ : ∃ x : Int, x = twoR q20 hi si := ⟨_, rfl⟩
      have c21 := gadget_Maker_Two_c (m := q20) (a := hi) (b := si) (Mok.mono o20 (by decide))
      rw [← h_q21, ← h_an1] at c21
      have o21 : Mok 331 q21 := by rw [h_q21]; exact twoM_ok (Mok.mono o20 (by decide)) _ _
      replace h_q21 : id (q21 = twoM q20 hi si) := h_q21
      replace h_an1 : id (an1 = twoR q20 hi si) := h_an1
      obtain ⟨q22, h_q22⟩ : ∃ x, x = sameM q21 an1 an := ⟨_, rfl⟩
      have c22 := gadget_Maker_Same_c (m := q21) (a := an1) (b := an) (Mok.mono o21 (by decide))
      rw [← h_q22] at c22
      have o22 : Mok 330 q22 := by rw [h_q22]; exact Mok.row (Mok.mono o21 (by decide)) _ _ _
      replace h_q22 : id (q22 = sameM q21 an1 an) := h_q22
      repeat refine AW.seq ?_
      refine AW.exit ?_
      repeat (first | refine Kseq.ex ?_ | refine Kloop.ex ?_ | refine Kblock.miss (by decide) ?_)
      refine Kblock.hit ?_
      refine AW.kq [0, 3, 4, 5, 6, 16, 18, 19, 23, 25] (h := ?_)
      repeat refine AW.seq ?_
      refine AW.reg ?_
      iterate 6 refine AOL.s1 (h := ?_)
      refine AOL.fz 3096 rfl (fun h => by cases h) (h := ?_)
      refine AOL.callM (l := 0) (b := 1000) (c15) rfl (by kernel_rfl) rfl rfl rfl rfl rfl (hst := by simp only [St.drops, St.drop, mapT, mapH, kill, kills, del, St.put, ins, reduceIte, Nat.reduceAdd, Nat.reduceLT, Nat.reduceEqDiff, Bool.false_eq_true]; exact rfl) ?_
      refine AOL.callM (l := 0) (b := 1000) (c16) rfl (by kernel_rfl) rfl rfl rfl rfl rfl (hst := by simp only [St.drops, St.drop, mapT, mapH, kill, kills, del, St.put, ins, reduceIte, Nat.reduceAdd, Nat.reduceLT, Nat.reduceEqDiff, Bool.false_eq_true]; exact rfl) ?_
      iterate 1 refine AOL.s1 (h := ?_)
      refine AOL.nil ?_
      refine AW.kq [0, 4, 5, 6, 16, 18, 19, 23, 31] (h := ?_)
      repeat refine AW.seq ?_
      refine AW.reg ?_
      iterate 3 refine AOL.s1 (h := ?_)
      refine AOL.callM (l := 0) (b := 1000) (c17) rfl (by kernel_rfl) rfl rfl rfl rfl rfl (hst := by simp only [St.drops, St.drop, mapT, mapH, kill, kills, del, St.put, ins, reduceIte, Nat.reduceAdd, Nat.reduceLT, Nat.reduceEqDiff, Bool.false_eq_true]; exact rfl) ?_
      refine AOL.callM (l := 0) (b := 1000) (c18) rfl (by kernel_rfl) rfl rfl rfl rfl rfl (hst := by simp only [St.drops, St.drop, mapT, mapH, kill, kills, del, St.put, ins, reduceIte, Nat.reduceAdd, Nat.reduceLT, Nat.reduceEqDiff, Bool.false_eq_true]; exact rfl) ?_
      refine AOL.nil ?_
      refine AW.kq [0, 4, 5, 6, 16, 18, 19, 23] (h := ?_)
      repeat refine AW.seq ?_
      refine AW.reg ?_
      iterate 6 refine AOL.s1 (h := ?_)
      refine AOL.fz 3304 rfl (fun h => by cases h) (h := ?_)
      refine AOL.callM (l := 0) (b := 1000) (c19) rfl (by kernel_rfl) rfl rfl rfl rfl rfl (hst := by simp only [St.drops, St.drop, mapT, mapH, kill, kills, del, St.put, ins, reduceIte, Nat.reduceAdd, Nat.reduceLT, Nat.reduceEqDiff, Bool.false_eq_true]; exact rfl) ?_
      iterate 1 refine AOL.s1 (h := ?_)
      refine AOL.callM (l := 0) (b := 1000) (c20) rfl (by kernel_rfl) rfl rfl rfl rfl rfl (hst := by simp only [St.drops, St.drop, mapT, mapH, kill, kills, del, St.put, ins, reduceIte, Nat.reduceAdd, Nat.reduceLT, Nat.reduceEqDiff, Bool.false_eq_true]; exact rfl) ?_
      refine AOL.nil ?_
      refine AW.kq [0, 4, 6, 16, 23] (h := ?_)
      repeat refine AW.seq ?_
      refine AW.reg ?_
      iterate 4 refine AOL.s1 (h := ?_)
      refine AOL.callM (l := 0) (b := 1000) (c21) rfl (by kernel_rfl) rfl rfl rfl rfl rfl (hst := by simp only [St.drops, St.drop, mapT, mapH, kill, kills, del, St.put, ins, reduceIte, Nat.reduceAdd, Nat.reduceLT, Nat.reduceEqDiff, Bool.false_eq_true]; exact rfl) ?_
      iterate 1 refine AOL.s1 (h := ?_)
      refine AOL.callM (l := 0) (b := 1000) (c22) rfl (by kernel_rfl) rfl rfl rfl rfl rfl (hst := by simp only [St.drops, St.drop, mapT, mapH, kill, kills, del, St.put, ins, reduceIte, Nat.reduceAdd, Nat.reduceLT, Nat.reduceEqDiff, Bool.false_eq_true]; exact rfl) ?_
      refine AOL.nil ?_
      refine AW.kq [16] (h := ?_)
      repeat refine AW.seq ?_
      refine AW.reg ?_
      iterate 2 refine AOL.s1 (h := ?_)
      refine AOL.nil ?_
      refine AW.kq [14] (h := ?_)
      repeat refine AW.seq ?_
      have eI : inpM m k v o rh a p p.length ro si en an = q22 := by
        simp only [id] at *
        unfold inpM
        subst h_q1 h_q2 h_q3 h_q4 h_q5
        simp only [hs']
        subst h_v0 h_v1 h_v2 h_v3 h_v4 h_k1 h_q7 h_hi h_q8 h_k2 h_q9 h_ow h_q10 h_q11 h_q12 h_h12 h_bs0 h_q13
        simp only [hs14]
        subst h_q15 h_k3 h_q16 h_off h_q17 h_k4 h_q18 h_q19 h_h19 h_q20 h_q21 h_an1 h_q22
        rfl
      rw [eI, ← show q1 = _ from h_q1, ← show v1 = _ from h_v1]
      refine AW.ret ?_
      refine ⟨_, mkOut q22, rfl, ?_, ?_⟩
      · exact fun x hx => List.mem_append_left [(1128, _)] hx
      · exact Tells.self
end Go.Proofs.YtngphcdhdllnnaaGreat.E.M
end
