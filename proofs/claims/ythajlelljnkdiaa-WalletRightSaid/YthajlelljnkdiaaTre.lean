/- obolref16: trees; keys, notes, ends: contracts over E. -/
import Derived.Test.YthajlelljnkdiaaCub
import Derived.Test.YthajlelljnkdiaaProg
import Derived.KernelRfl
set_option linter.unusedVariables false
set_option linter.unusedSimpArgs false
set_option maxRecDepth 10000
open Go Go.Proofs.Ythajlelljnkdiaa.E Go.Proofs
namespace Go.Proofs.Ythajlelljnkdiaa.E.M
abbrev TFn : Prop := tSz Try.prog 35 = some 3 ∧
    tAgg Try.prog 35 = some true ∧
    tBytes Try.prog 35 = some 24 ∧
    tZero Try.prog 35 = some [(.int .u64 0), (.int .u64 0), (.int .u64 0)] ∧
    tSlice Try.prog 35 = none ∧
    tIface Try.prog 35 = some false ∧
    tCls Try.prog 35 = .other ∧
    tField Try.prog 35 0 = some (0, 23) ∧
    tField Try.prog 35 1 = some (1, 23) ∧
    tField Try.prog 35 2 = some (2, 23) ∧
    (∀ ps, aBuild Try.prog 35 ps = (aFill ([(0, 1), (1, 1), (2, 1)][·]?) [.val (.int .u64 0), .val (.int .u64 0), .val (.int .u64 0)] ps).map .agg) ∧
    tSz Try.prog 38 = some 6 ∧
    tAgg Try.prog 38 = some true ∧
    tBytes Try.prog 38 = some 64 ∧
    tZero Try.prog 38 = some [(.int .u64 0), (.int .u64 0), (.int .u64 0), (.int .u64 0), (.int .i64 0), (.slice none 0 0)] ∧
    tSlice Try.prog 38 = none ∧
    tIface Try.prog 38 = some false ∧
    tCls Try.prog 38 = .other ∧
    tField Try.prog 38 0 = some (0, 23) ∧
    tField Try.prog 38 1 = some (1, 35) ∧
    tField Try.prog 38 2 = some (4, 3) ∧
    tField Try.prog 38 3 = some (5, 36) ∧
    (∀ ps, aBuild Try.prog 38 ps = (aFill ([(0, 1), (1, 3), (4, 1), (5, 1)][·]?) [.val (.int .u64 0), .val (.int .u64 0), .val (.int .u64 0), .val (.int .u64 0), .val (.int .i64 0), .val (.slice none 0 0)] ps).map .agg) ∧
    tSz Try.prog 36 = some 1 ∧
    tAgg Try.prog 36 = some false ∧
    tBytes Try.prog 36 = some 24 ∧
    tZero Try.prog 36 = some [(.slice none 0 0)] ∧
    tSlice Try.prog 36 = some 23 ∧
    Try.prog.underlying 36 = some (.slice 23) ∧
    tIface Try.prog 36 = some false ∧
    tCls Try.prog 36 = .slice ∧
    tSz Try.prog 23 = some 1 ∧
    tAgg Try.prog 23 = some false ∧
    tBytes Try.prog 23 = some 8 ∧
    tZero Try.prog 23 = some [(.int .u64 0)] ∧
    tSlice Try.prog 23 = none ∧
    tInt Try.prog 23 = some .u64 ∧
    Try.prog.underlying 23 = some (.int .u64) ∧
    tIface Try.prog 23 = some false ∧
    tCls Try.prog 23 = .other ∧
    tSz Try.prog 3 = some 1 ∧
    tAgg Try.prog 3 = some false ∧
    tBytes Try.prog 3 = some 8 ∧
    tZero Try.prog 3 = some [(.int .i64 0)] ∧
    tSlice Try.prog 3 = none ∧
    tInt Try.prog 3 = some .i64 ∧
    Try.prog.underlying 3 = some (.int .i64) ∧
    tIface Try.prog 3 = some false ∧
    tCls Try.prog 3 = .other
theorem tfn : TFn :=
  ⟨rfl, rfl, rfl, rfl, rfl, rfl, rfl, rfl, rfl, rfl, fun _ => rfl, rfl, rfl, rfl, rfl, rfl, rfl, rfl, rfl, rfl, rfl, rfl, fun _ => rfl, rfl, rfl, rfl, rfl, rfl, rfl, rfl, rfl, rfl, rfl, rfl, rfl, rfl, rfl, rfl, rfl, rfl, rfl, rfl, rfl, rfl, rfl, rfl, rfl, rfl, rfl⟩

/-- a note: value, owner, rho -/
abbrev nt (n : Int × Int × Int) : AV := .agg [u n.1, u n.2.1, u n.2.2]
abbrev wN (n : Int × Int × Int) : Prop := w64 n.1 ∧ w64 n.2.1 ∧ w64 n.2.2
def mrkH (n : Int × Int × Int) : Int := manyH [n.1, n.2.1, n.2.2]
def maynH (n : Int × Int × Int) : Bool := decide (n.1 < 4294967296) && decide (n.2.1 < 288230376287764481) && decide (n.2.2 < 288230376287764481)
/-- an input: key, note, place, path -/
structure Ip where
  k : Int
  n : Int × Int × Int
  a : Int
  p : List Int
abbrev ip (x : Ip) : AV := .agg [u x.k, u x.n.1, u x.n.2.1, u x.n.2.2, i x.a, ul x.p]
def endH (x : Ip) : Int := manyH [twoH x.k 1, x.n.2.2, x.a]
def empH : Nat → Int
  | 0 => 0
  | n + 1 => twoH (empH n) (empH n)
theorem empH_l : ∀ n, lR (empH n)
  | 0 => by unfold empH lR; decide
  | n + 1 => twoH_l _ _
def atH (L : List Int) : Nat → Nat → Int
  | 0, k => if k < L.length then L.getD k 0 else empH 0
  | l + 1, k => if k * 2 ^ (l + 1) < L.length then twoH (atH L l (2 * k)) (atH L l (2 * k + 1)) else empH (l + 1)
def climbH : List Int → Int → Int → Int
  | [], _, h => h
  | x :: r, n, h => climbH r (n / 2) (if n % 2 = 1 then twoH x h else twoH h x)
def nonneg (n : Int) : Int := if n < 0 then 0 else n
def mayH (L : List Int) (d : Int) : Int :=
  if d < 1 ∨ d > 16 then 1 else if L.any (fun v => decide (v ≥ 288230376287764481)) then 1 else if (L.length : Int) > 2 ^ d.toNat then 11 else 0
theorem i64_o {n : Int} (h0 : 0 ≤ n) (h1 : n < 9223372036854775808) : IntKind.u64.wrap n = n := wrapU_o h0 (by omega)
set_option maxHeartbeats 1000000 in
theorem obolref17_Key_c {k : Int} (hk : w64 k) : Fn Try.prog 13 [u k] [] (fun r h_ => r = bo (keyH k)) := by
  refine Fn.enter Try.func13 Try.ntmps13 rfl (h := ?_)
  have tf := tfn
  have ot_ : (false || true) = true := rfl
  repeat refine AW.seq ?_
  refine AW.reg ?_
  iterate 1 refine AOL.s1 (h := ?_)
  refine AOL.nil ?_
  refine AW.kq [0] (h := ?_)
  repeat refine AW.seq ?_
  refine AW.reg ?_
  iterate 3 refine AOL.s1 (h := ?_)
  refine AOL.kq [0, 5] (h := ?_)
  refine AOL.and 5 8 (os' := ?_) (x := ?_) (h1 := ?_) (h0 := ?_) (h := ?_)
  rotate_left 2
  iterate 2
    · intro hb_ K' hK; (iterate 3 refine AOL.s1 (h := ?_)); refine AOL.kq [0, 8] (h := ?_); exact hK
  iterate 1 refine AOL.s1 (h := ?_)
  refine AOL.nil ?_
  refine AW.kq [2] (h := ?_)
  repeat refine AW.seq ?_
  refine AW.ret ?_
  refine ⟨_, [], rfl, HOk.nil _, ?_⟩
  unfold keyH
  by_cases h : k = 0 <;> simp [h, one?]
set_option maxHeartbeats 1000000 in
theorem obolref17_Owner_c {k : Int} (hk : w64 k) : Fn Try.prog 18 [u k] [] (fun r h_ => r = u (twoH k 2)) := by
  refine Fn.enter Try.func18 Try.ntmps18 rfl (h := ?_)
  have tf := tfn
  have ot_ : (false || true) = true := rfl
  repeat refine AW.seq ?_
  refine AW.reg ?_
  iterate 1 refine AOL.s1 (h := ?_)
  refine AOL.nil ?_
  refine AW.kq [0] (h := ?_)
  repeat refine AW.seq ?_
  refine AW.reg ?_
  iterate 1 refine AOL.s1 (h := ?_)
  refine AOL.callD rfl (obolref10_Two_c hk (by decide)) (by kernel_rfl) rfl rfl (h := ?_)
  iterate 1 refine AOL.s1 (h := ?_)
  refine AOL.nil ?_
  refine AW.kq [2] (h := ?_)
  repeat refine AW.seq ?_
  refine AW.ret ?_
  refine ⟨_, [], rfl, HOk.nil _, ?_⟩
  rfl
set_option maxHeartbeats 1000000 in
theorem obolref17_Scalar_c {k : Int} (hk : w64 k) : Fn Try.prog 41 [u k] [] (fun r h_ => r = u (sclH k)) := by
  refine Fn.enter Try.func41 Try.ntmps41 rfl (h := ?_)
  have tf := tfn
  have ot_ : (false || true) = true := rfl
  have t1 := tmod_nn (m := 72057593894066549) (a := k) hk.1
  unfold sclH
  repeat refine AW.seq ?_
  refine AW.reg ?_
  iterate 1 refine AOL.s1 (h := ?_)
  refine AOL.nil ?_
  refine AW.kq [0] (h := ?_)
  repeat refine AW.seq ?_
  refine AW.reg ?_
  iterate 3 refine AOL.s1 (h := ?_)
  refine AOL.nil ?_
  refine AW.kq [3] (h := ?_)
  repeat refine AW.seq ?_
  refine AW.reg ?_
  iterate 2 refine AOL.s1 (h := ?_)
  refine AOL.nil ?_
  refine AW.kq [3, 7] (h := ?_)
  repeat refine AW.seq ?_
  refine AW.cond rfl (fun c_ => ?_) (fun c_ => ?_)
  · rw [if_pos (by simpa using c_)]
    repeat refine AW.seq ?_
    refine AW.reg ?_
    iterate 1 refine AOL.s1 (h := ?_)
    refine AOL.nil ?_
    refine AW.kq [2] (h := ?_)
    repeat refine AW.seq ?_
    refine AW.ret ?_
    refine ⟨_, [], rfl, HOk.nil _, ?_⟩
    rfl
  rw [if_neg (by simpa using c_)]
  refine AW.skip ?_
  repeat refine AW.seq ?_
  refine AW.reg ?_
  iterate 2 refine AOL.s1 (h := ?_)
  refine AOL.nil ?_
  refine AW.kq [2] (h := ?_)
  repeat refine AW.seq ?_
  refine AW.ret ?_
  refine ⟨_, [], rfl, HOk.nil _, ?_⟩
  rfl
set_option maxHeartbeats 1000000 in
theorem obolref17_Mark_c {n : Int × Int × Int} (hn : wN n) : Fn Try.prog 30 [nt n] [] (fun r h_ => r = u (mrkH n)) := by
  refine Fn.enter Try.func30 Try.ntmps30 rfl (h := ?_)
  have tf := tfn
  have ot_ : (false || true) = true := rfl
  obtain ⟨v, o, r⟩ := n
  obtain ⟨h1, h2, h3⟩ := hn
  simp only at h1 h2 h3
  repeat refine AW.seq ?_
  refine AW.reg ?_
  iterate 2 refine AOL.s1 (h := ?_)
  refine AOL.nil ?_
  refine AW.kq [1] (h := ?_)
  repeat refine AW.seq ?_
  refine AW.reg ?_
  iterate 7 refine AOL.s1 (h := ?_)
  refine AOL.fz 1144 rfl (fun h => by cases h) (h := ?_)
  refine AOL.callD rfl (obolref10_Many_c (V := [v, o, r]) (by intro x hx; simp only [List.mem_cons, List.not_mem_nil, or_false] at hx; rcases hx with rfl | rfl | rfl <;> assumption) (by simp)) (by kernel_rfl) rfl rfl (h := ?_)
  iterate 1 refine AOL.s1 (h := ?_)
  refine AOL.nil ?_
  refine AW.kq [2] (h := ?_)
  repeat refine AW.seq ?_
  refine AW.ret ?_
  refine ⟨_, [], rfl, HOk.nil _, ?_⟩
  rfl
set_option maxHeartbeats 1000000 in
theorem obolref17_May_c {n : Int × Int × Int} (hn : wN n) : Fn Try.prog 45 [nt n] [] (fun r h_ => r = bo (maynH n)) := by
  refine Fn.enter Try.func45 Try.ntmps45 rfl (h := ?_)
  have tf := tfn
  have ot_ : (false || true) = true := rfl
  obtain ⟨v, o, r⟩ := n
  unfold maynH
  repeat refine AW.seq ?_
  refine AW.reg ?_
  iterate 2 refine AOL.s1 (h := ?_)
  refine AOL.nil ?_
  refine AW.kq [1] (h := ?_)
  repeat refine AW.seq ?_
  refine AW.reg ?_
  iterate 4 refine AOL.s1 (h := ?_)
  refine AOL.kq [1, 6] (h := ?_)
  refine AOL.and 6 10 (os' := ?_) (x := ?_) (h1 := ?_) (h0 := ?_) (h := ?_)
  rotate_left 2
  iterate 2
    · intro hb_ K' hK; (iterate 4 refine AOL.s1 (h := ?_)); refine AOL.kq [1, 10] (h := ?_); exact hK
  iterate 1 refine AOL.s1 (h := ?_)
  refine AOL.kq [1, 11] (h := ?_)
  refine AOL.and 11 15 (os' := ?_) (x := ?_) (h1 := ?_) (h0 := ?_) (h := ?_)
  rotate_left 2
  iterate 2
    · intro hb_ K' hK; (iterate 4 refine AOL.s1 (h := ?_)); refine AOL.kq [1, 15] (h := ?_); exact hK
  iterate 1 refine AOL.s1 (h := ?_)
  refine AOL.nil ?_
  refine AW.kq [2] (h := ?_)
  repeat refine AW.seq ?_
  refine AW.ret ?_
  refine ⟨_, [], rfl, HOk.nil _, ?_⟩
  simp only [one?]
set_option maxHeartbeats 1000000 in
theorem obolref18_below_c {n : Int} (hn : w64 n) : Fn Try.prog 27 [u n] [] (fun r h_ => r = bo (decide (n < 288230376287764481))) := by
  refine Fn.enter Try.func27 Try.ntmps27 rfl (h := ?_)
  have tf := tfn
  have ot_ : (false || true) = true := rfl
  repeat refine AW.seq ?_
  refine AW.reg ?_
  iterate 1 refine AOL.s1 (h := ?_)
  refine AOL.nil ?_
  refine AW.kq [0] (h := ?_)
  repeat refine AW.seq ?_
  refine AW.reg ?_
  iterate 3 refine AOL.s1 (h := ?_)
  refine AOL.nil ?_
  refine AW.kq [2] (h := ?_)
  repeat refine AW.seq ?_
  refine AW.ret ?_
  refine ⟨_, [], rfl, HOk.nil _, ?_⟩
  rfl
set_option maxHeartbeats 1000000 in
theorem obolref18_End_c {x : Ip} (hk : w64 x.k) (hr : w64 x.n.2.2) (ha : 0 ≤ x.a ∧ x.a < 9223372036854775808) : Fn Try.prog 24 [ip x] [] (fun r h_ => r = u (endH x)) := by
  refine Fn.enter Try.func24 Try.ntmps24 rfl (h := ?_)
  have tf := tfn
  have ot_ : (false || true) = true := rfl
  obtain ⟨k, ⟨v, o, r⟩, a, p⟩ := x
  simp only at hk hr ha
  have e1 := i64_o ha.1 ha.2
  repeat refine AW.seq ?_
  refine AW.reg ?_
  iterate 2 refine AOL.s1 (h := ?_)
  refine AOL.nil ?_
  refine AW.kq [1] (h := ?_)
  repeat refine AW.seq ?_
  refine AW.drw 9 [] (by kernel_rfl) (h := ?_)
  iterate 2 refine ADL.dm 1 (h := ?_)
  refine ADL.call rfl (obolref10_Two_c hk (by decide)) (by kernel_rfl) rfl rfl (h := ?_)
  iterate 6 refine ADL.dm 1 (h := ?_)
  refine ADL.done hmix rfl rfl (hT := ?_)
  iterate 1 refine AOL.s1 (h := ?_)
  refine AOL.fz 1192 rfl (fun h => by cases h) (h := ?_)
  refine AOL.callD rfl (obolref10_Many_c (V := [twoH k 1, r, a]) (by intro x hx; simp only [List.mem_cons, List.not_mem_nil, or_false] at hx; rcases hx with rfl | rfl | rfl; exact (twoH_l _ _).w; exact hr; exact ⟨ha.1, by omega⟩) (by simp)) (by kernel_rfl) rfl rfl (h := ?_)
  iterate 1 refine AOL.s1 (h := ?_)
  refine AOL.nil ?_
  refine AW.kq [2] (h := ?_)
  repeat refine AW.seq ?_
  refine AW.ret ?_
  refine ⟨_, [], rfl, HOk.nil _, ?_⟩
  rfl
set_option maxHeartbeats 1000000 in
theorem obolref16_empty_c {l : Nat} (hl : l < 1000) : Fn Try.prog 35 [i l] [] (fun r h_ => r = u (empH l)) := by
  refine Fn.enter Try.func35 Try.ntmps35 rfl (h := ?_)
  have tf := tfn
  have ot_ : (false || true) = true := rfl
  repeat refine AW.seq ?_
  refine AW.reg ?_
  iterate 1 refine AOL.s1 (h := ?_)
  refine AOL.nil ?_
  refine AW.kq [0] (h := ?_)
  repeat refine AW.seq ?_
  refine AW.reg ?_
  iterate 1 refine AOL.s1 (h := ?_)
  refine AOL.nil ?_
  refine AW.kq [0, 3] (h := ?_)
  repeat refine AW.seq ?_
  refine AW.reg ?_
  iterate 1 refine AOL.s1 (h := ?_)
  refine AOL.nil ?_
  refine AW.kq [0, 3, 4] (h := ?_)
  repeat refine AW.seq ?_
  refine AW.block ?_
  repeat refine AW.seq ?_
  refine AW.loopK [0, 3, 4] (fun n s => ∃ (j : Nat), s = ⟨14, [(0, i l), (3, u (empH j)), (4, i j)], []⟩ ∧ j + n = l) (l) ?_ ?_
  · exact ⟨0, rfl, by omega⟩
  rintro n s ⟨j, rfl, hj⟩
  repeat refine AW.seq ?_
  refine AW.reg ?_
  iterate 3 refine AOL.s1 (h := ?_)
  refine AOL.nil ?_
  refine AW.kq [0, 3, 4, 7] (h := ?_)
  repeat refine AW.seq ?_
  refine AW.cond rfl (fun c_ => ?_) (fun c_ => ?_)
  · have j1 : j < l := by simp at c_; omega
    obtain ⟨n, rfl⟩ : ∃ m, n = m + 1 := ⟨n - 1, by omega⟩
    have k2 : IntKind.i64.wrap ((j : Int) + 1) = ((j + 1 : Nat) : Int) := by rw [wrapI_o (by omega) (by omega)]; omega
    refine AW.skip ?_
    repeat refine AW.seq ?_
    refine AW.block ?_
    repeat refine AW.seq ?_
    refine AW.reg ?_
    iterate 2 refine AOL.s1 (h := ?_)
    refine AOL.callD rfl (obolref10_Two_c (empH_l j).w (empH_l j).w) (by kernel_rfl) rfl rfl (h := ?_)
    iterate 1 refine AOL.s1 (h := ?_)
    refine AOL.nil ?_
    repeat refine AW.seq ?_
    refine AW.reg ?_
    iterate 3 refine AOL.s1 (h := ?_)
    refine AOL.nil ?_
    exact ⟨n, by omega, j + 1, rfl, by omega⟩
  · have j1 : j = l := by simp at c_; omega
    subst j1
    repeat refine AW.seq ?_
    refine AW.exit ?_
    repeat (first | refine Kseq.ex ?_ | refine Kloop.ex ?_ | refine Kblock.miss (by decide) ?_)
    refine Kblock.hit ?_
    refine AW.kq [3] (h := ?_)
    repeat refine AW.seq ?_
    refine AW.reg ?_
    iterate 2 refine AOL.s1 (h := ?_)
    refine AOL.nil ?_
    refine AW.kq [2] (h := ?_)
    repeat refine AW.seq ?_
    refine AW.ret ?_
    refine ⟨_, [], rfl, HOk.nil _, ?_⟩
    rfl
end Go.Proofs.Ythajlelljnkdiaa.E.M

