/- Points times numbers, together; whether points are of order R: contracts over E. -/
import Derived.Test.YtdbpjegocmdplaaPairD
import Derived.Test.YtdbpjegocmdplaaCurX
import Derived.Test.YtdbpjegocmdplaaQapB
import Derived.Test.YtdbpjegocmdplaaEH
import Derived.Test.YtdbpjegocmdplaaProg
import Derived.KernelRfl
set_option linter.unusedVariables false
set_option linter.unusedSimpArgs false
set_option maxRecDepth 10000
open Go Go.Proofs.Ytdbpjegocmdplaa.E Go.Proofs
namespace Go.Proofs.Ytdbpjegocmdplaa.E.M
abbrev TFg : Prop := tSz Try.prog 43 = some 9 ∧
    tAgg Try.prog 43 = some true ∧
    tBytes Try.prog 43 = some 72 ∧
    tZero Try.prog 43 = some [(.bool false), (.int .u64 0), (.int .u64 0), (.bool false), (.int .u64 0), (.int .u64 0), (.bool false), (.int .u64 0), (.int .u64 0)] ∧
    tSlice Try.prog 43 = none ∧
    tIface Try.prog 43 = some false ∧
    tCls Try.prog 43 = .other ∧
    tField Try.prog 43 0 = some (0, 32) ∧
    tField Try.prog 43 1 = some (3, 32) ∧
    tField Try.prog 43 2 = some (6, 32) ∧
    (∀ ps, aBuild Try.prog 43 ps = (aFill ([(0, 3), (3, 3), (6, 3)][·]?) [.val (.bool false), .val (.int .u64 0), .val (.int .u64 0), .val (.bool false), .val (.int .u64 0), .val (.int .u64 0), .val (.bool false), .val (.int .u64 0), .val (.int .u64 0)] ps).map .agg) ∧
    tSz Try.prog 85 = some 9 ∧
    tAgg Try.prog 85 = some true ∧
    tBytes Try.prog 85 = some 72 ∧
    tZero Try.prog 85 = some [(.bool false), (.int .u64 0), (.int .u64 0), (.bool false), (.int .u64 0), (.int .u64 0), (.bool false), (.int .u64 0), (.int .u64 0)] ∧
    tSlice Try.prog 85 = none ∧
    tArray Try.prog 85 = some (3, 32) ∧
    Try.prog.underlying 85 = some (.array 3 32) ∧
    tIface Try.prog 85 = some false ∧
    tCls Try.prog 85 = .other ∧
    (∀ ps, aBuild Try.prog 85 ps = (aFill (fun i => some (i * 3, 3)) [.val (.bool false), .val (.int .u64 0), .val (.int .u64 0), .val (.bool false), .val (.int .u64 0), .val (.int .u64 0), .val (.bool false), .val (.int .u64 0), .val (.int .u64 0)] ps).map .agg) ∧
    tSz Try.prog 27 = some 5 ∧
    tAgg Try.prog 27 = some true ∧
    tBytes Try.prog 27 = some 40 ∧
    tZero Try.prog 27 = some [(.int .u64 0), (.int .u64 0), (.int .u64 0), (.int .u64 0), (.int .u64 0)] ∧
    tSlice Try.prog 27 = none ∧
    tIface Try.prog 27 = some false ∧
    tCls Try.prog 27 = .other ∧
    tField Try.prog 27 0 = some (0, 25) ∧
    tField Try.prog 27 1 = some (1, 25) ∧
    tField Try.prog 27 2 = some (2, 25) ∧
    tField Try.prog 27 3 = some (3, 25) ∧
    tField Try.prog 27 4 = some (4, 25) ∧
    (∀ ps, aBuild Try.prog 27 ps = (aFill ([(0, 1), (1, 1), (2, 1), (3, 1), (4, 1)][·]?) [.val (.int .u64 0), .val (.int .u64 0), .val (.int .u64 0), .val (.int .u64 0), .val (.int .u64 0)] ps).map .agg) ∧
    tSz Try.prog 35 = some 13 ∧
    tAgg Try.prog 35 = some true ∧
    tBytes Try.prog 35 = some 168 ∧
    tZero Try.prog 35 = some [(.bool false), (.int .u64 0), (.int .u64 0), (.bool false), (.int .u64 0), (.int .u64 0), (.bool false), (.int .u64 0), (.int .u64 0), (.slice none 0 0), (.slice none 0 0), (.slice none 0 0), (.slice none 0 0)] ∧
    tSlice Try.prog 35 = none ∧
    tIface Try.prog 35 = some false ∧
    tCls Try.prog 35 = .other ∧
    tField Try.prog 35 0 = some (0, 32) ∧
    tField Try.prog 35 1 = some (3, 32) ∧
    tField Try.prog 35 2 = some (6, 32) ∧
    tField Try.prog 35 3 = some (9, 33) ∧
    tField Try.prog 35 4 = some (10, 33) ∧
    tField Try.prog 35 5 = some (11, 33) ∧
    tField Try.prog 35 6 = some (12, 33) ∧
    (∀ ps, aBuild Try.prog 35 ps = (aFill ([(0, 3), (3, 3), (6, 3), (9, 1), (10, 1), (11, 1), (12, 1)][·]?) [.val (.bool false), .val (.int .u64 0), .val (.int .u64 0), .val (.bool false), .val (.int .u64 0), .val (.int .u64 0), .val (.bool false), .val (.int .u64 0), .val (.int .u64 0), .val (.slice none 0 0), .val (.slice none 0 0), .val (.slice none 0 0), .val (.slice none 0 0)] ps).map .agg) ∧
    tSz Try.prog 37 = some 13 ∧
    tAgg Try.prog 37 = some true ∧
    tBytes Try.prog 37 = some 120 ∧
    tZero Try.prog 37 = some [(.bool false), (.int .u64 0), (.int .u64 0), (.bool false), (.int .u64 0), (.int .u64 0), (.bool false), (.int .u64 0), (.int .u64 0), (.bool false), (.int .u64 0), (.int .u64 0), (.slice none 0 0)] ∧
    tSlice Try.prog 37 = none ∧
    tIface Try.prog 37 = some false ∧
    tCls Try.prog 37 = .other ∧
    tField Try.prog 37 0 = some (0, 32) ∧
    tField Try.prog 37 1 = some (3, 32) ∧
    tField Try.prog 37 2 = some (6, 32) ∧
    tField Try.prog 37 3 = some (9, 32) ∧
    tField Try.prog 37 4 = some (12, 33) ∧
    (∀ ps, aBuild Try.prog 37 ps = (aFill ([(0, 3), (3, 3), (6, 3), (9, 3), (12, 1)][·]?) [.val (.bool false), .val (.int .u64 0), .val (.int .u64 0), .val (.bool false), .val (.int .u64 0), .val (.int .u64 0), .val (.bool false), .val (.int .u64 0), .val (.int .u64 0), .val (.bool false), .val (.int .u64 0), .val (.int .u64 0), .val (.slice none 0 0)] ps).map .agg)
theorem tfg : TFg :=
  ⟨rfl, rfl, rfl, rfl, rfl, rfl, rfl, rfl, rfl, rfl, fun _ => rfl, rfl, rfl, rfl, rfl, rfl, rfl, rfl, rfl, rfl, fun _ => rfl, rfl, rfl, rfl, rfl, rfl, rfl, rfl, rfl, rfl, rfl, rfl, rfl, fun _ => rfl, rfl, rfl, rfl, rfl, rfl, rfl, rfl, rfl, rfl, rfl, rfl, rfl, rfl, rfl, fun _ => rfl, rfl, rfl, rfl, rfl, rfl, rfl, rfl, rfl, rfl, rfl, rfl, rfl, fun _ => rfl⟩
theorem ptc_free (t : P3) : frees (ptc t) = true := rfl
abbrev pl (L : List P3) : AV := slF ptc L
theorem pl_at {L : List P3} {n : Nat} {g : P3} (h : L[n]? = some g) : (fm ptc L).drop (n * 3) = bo g.1 :: u g.2.1 :: u g.2.2 :: fm ptc (L.drop (n + 1)) := by
  have hl := (List.getElem?_eq_some_iff.1 h).1
  have := fm_at ptc_len hl
  rw [List.getElem?_eq_getElem hl] at h
  rw [Option.some.inj h] at this
  exact this
abbrev wP3 (t : P3) : Prop := w64 t.2.1 ∧ w64 t.2.2
theorem Pt.w3 {t : P3} (h : Pt t) : wP3 t := ⟨h.wx.1.w, h.wx.2.w⟩
def addG (a b : P3) : P3 := sumP (sureP a.1 a.2.1 a.2.2) (sureP b.1 b.2.1 b.2.2)
def mulG (a : P3) (k : Int) : P3 := timesP (sureP a.1 a.2.1 a.2.2) k
theorem addG_pt (a b : P3) : Pt (addG a b) := sumP_pt (sureP_pt _ _ _) (sureP_pt _ _ _)
theorem mulG_pt (a : P3) (k : Int) : Pt (mulG a k) := timesP_pt (sureP_pt _ _ _) k
def togF : P3 → List P3 → List Int → P3
  | a, g :: L, k :: N => togF (addG a (mulG g k)) L N
  | a, _, _ => a
theorem togF_w : ∀ (L : List P3) (N : List Int) {a : P3}, wP3 a → wP3 (togF a L N)
  | g :: L, k :: N, a, h => togF_w L N (Pt.w3 (addG_pt _ _))
  | [], _, a, h => by simp only [togF]; exact h
  | _ :: _, [], a, h => by simp only [togF]; exact h
set_option maxHeartbeats 1000000 in
theorem groth_mul_c {a b : Int} (ha : w64 a) (hb : w64 b) : Fn Try.prog 29 [u a, u b] [] (fun r h_ => r = u (a * b % 288230376287764481)) := by
  refine Fn.enter Try.func29 Try.ntmps29 rfl (h := ?_)
  have tf := tf
  have ot_ : (false || true) = true := rfl
  repeat refine AW.seq ?_
  refine AW.reg ?_
  iterate 1 refine AOL.s1 (h := ?_)
  refine AOL.nil ?_
  refine AW.kq [0, 1] (h := ?_)
  repeat refine AW.seq ?_
  refine AW.reg ?_
  iterate 2 refine AOL.s1 (h := ?_)
  refine AOL.callD rfl (modular_Mul_c hR ha hb) (by kernel_rfl) rfl rfl (h := ?_)
  iterate 1 refine AOL.s1 (h := ?_)
  refine AOL.nil ?_
  refine AW.kq [4] (h := ?_)
  repeat refine AW.seq ?_
  refine AW.ret ?_
  refine ⟨_, [], rfl, HOk.nil _, ?_⟩
  rfl
set_option maxHeartbeats 1000000 in
theorem groth_add_c {a b : Int} (ha : w64 a) (hb : w64 b) : Fn Try.prog 28 [u a, u b] [] (fun r h_ => r = u ((a + b) % 288230376287764481)) := by
  refine Fn.enter Try.func28 Try.ntmps28 rfl (h := ?_)
  have tf := tf
  have ot_ : (false || true) = true := rfl
  repeat refine AW.seq ?_
  refine AW.reg ?_
  iterate 1 refine AOL.s1 (h := ?_)
  refine AOL.nil ?_
  refine AW.kq [0, 1] (h := ?_)
  repeat refine AW.seq ?_
  refine AW.reg ?_
  iterate 2 refine AOL.s1 (h := ?_)
  refine AOL.callD rfl (modular_Add_c hR ha hb) (by kernel_rfl) rfl rfl (h := ?_)
  iterate 1 refine AOL.s1 (h := ?_)
  refine AOL.nil ?_
  refine AW.kq [4] (h := ?_)
  repeat refine AW.seq ?_
  refine AW.ret ?_
  refine ⟨_, [], rfl, HOk.nil _, ?_⟩
  rfl
set_option maxHeartbeats 1000000 in
theorem groth_point_c {k : Int} (hk : w64 k) : Fn Try.prog 26 [u k] [] (fun r h_ => r = pt (timesP GG k)) := by
  refine Fn.enter Try.func26 Try.ntmps26 rfl (h := ?_)
  have tf := tf
  have ot_ : (false || true) = true := rfl
  have tfg := tfg
  have tfr := tfr
  have tfl := tfl
  have cm := curve_Mul_c (b := false) (x := 247390119040843104) (y := 830327839767444578) (by decide) (by decide) hk
  have cg := curve_Gen_c
  rw [show sureP false 247390119040843104 830327839767444578 = GG from sureP_of gg_pt] at cm
  generalize timesP GG k = g at *
  obtain ⟨g0, g1, g2⟩ := g
  repeat refine AW.seq ?_
  refine AW.reg ?_
  iterate 1 refine AOL.s1 (h := ?_)
  refine AOL.nil ?_
  refine AW.kq [0, 2] (h := ?_)
  repeat refine AW.seq ?_
  refine AW.reg ?_
  refine AOL.callD rfl (cg) (by kernel_rfl) rfl rfl (h := ?_)
  iterate 1 refine AOL.s1 (h := ?_)
  refine AOL.callD rfl (cm) (by kernel_rfl) rfl rfl (h := ?_)
  iterate 1 refine AOL.s1 (h := ?_)
  refine AOL.nil ?_
  refine AW.kq [2] (h := ?_)
  repeat refine AW.seq ?_
  refine AW.ret ?_
  refine ⟨_, [], rfl, HOk.nil _, ?_⟩
  rfl
set_option maxHeartbeats 1000000 in
theorem groth_Setup_1_c {v : Int} : Fn Try.prog 23 [u v] [] (fun r h_ => r = bo (decide (v ≥ 288230376287764481))) := by
  refine Fn.enter Try.func23 Try.ntmps23 rfl (h := ?_)
  have tf := tf
  have ot_ : (false || true) = true := rfl
  repeat refine AW.seq ?_
  refine AW.reg ?_
  iterate 1 refine AOL.s1 (h := ?_)
  refine AOL.nil ?_
  refine AW.kq [0] (h := ?_)
  repeat refine AW.seq ?_
  refine AW.reg ?_
  iterate 3 refine AOL.s1 (h := ?_)
  refine AOL.nil ?_
  refine AW.kq [2] (h := ?_)
  repeat refine AW.seq ?_
  refine AW.ret ?_
  refine ⟨_, [], rfl, HOk.nil _, ?_⟩
  rfl
set_option maxHeartbeats 1000000 in
theorem groth_Verify_1_c {v : Int} : Fn Try.prog 35 [u v] [] (fun r h_ => r = bo (decide (v ≥ 288230376287764481))) := by
  refine Fn.enter Try.func35 Try.ntmps35 rfl (h := ?_)
  have tf := tf
  have ot_ : (false || true) = true := rfl
  repeat refine AW.seq ?_
  refine AW.reg ?_
  iterate 1 refine AOL.s1 (h := ?_)
  refine AOL.nil ?_
  refine AW.kq [0] (h := ?_)
  repeat refine AW.seq ?_
  refine AW.reg ?_
  iterate 3 refine AOL.s1 (h := ?_)
  refine AOL.nil ?_
  refine AW.kq [2] (h := ?_)
  repeat refine AW.seq ?_
  refine AW.ret ?_
  refine ⟨_, [], rfl, HOk.nil _, ?_⟩
  rfl
set_option maxHeartbeats 1000000 in
theorem groth_Verify_2_c {g : P3} (hg : wP3 g) : Fn Try.prog 37 [pt g] [] (fun r h_ => r = bo (!inP g.1 g.2.1 g.2.2)) := by
  refine Fn.enter Try.func37 Try.ntmps37 rfl (h := ?_)
  have tf := tf
  have ot_ : (false || true) = true := rfl
  have ci := curve_In_c (b := g.1) hg.1 hg.2
  repeat refine AW.seq ?_
  refine AW.reg ?_
  iterate 2 refine AOL.s1 (h := ?_)
  refine AOL.nil ?_
  refine AW.kq [1] (h := ?_)
  repeat refine AW.seq ?_
  refine AW.reg ?_
  iterate 1 refine AOL.s1 (h := ?_)
  refine AOL.callD rfl (ci) (by kernel_rfl) rfl rfl (h := ?_)
  iterate 2 refine AOL.s1 (h := ?_)
  refine AOL.nil ?_
  refine AW.kq [2] (h := ?_)
  repeat refine AW.seq ?_
  refine AW.ret ?_
  refine ⟨_, [], rfl, HOk.nil _, ?_⟩
  rfl
set_option maxHeartbeats 8000000 in
theorem groth_together_c {a : P3} {L : List P3} {V : List Int} (ha : wP3 a) (hL : ∀ g ∈ L, wP3 g) (hV : wV V) (hl : V.length ≤ L.length) (lV : V.length < 1000000000) : Fn Try.prog 32 [pt a, pl L, ul V] [] (fun r h_ => r = pt (togF a L V)) := by
  refine Fn.enter Try.func32 Try.ntmps32 rfl (h := ?_)
  have tf := tf
  have ot_ : (false || true) = true := rfl
  have tfg := tfg
  have tfr := tfr
  have tfl := tfl
  repeat refine AW.seq ?_
  refine AW.reg ?_
  iterate 2 refine AOL.s1 (h := ?_)
  refine AOL.nil ?_
  refine AW.kq [1, 2, 3, 6] (h := ?_)
  repeat refine AW.seq ?_
  refine AW.reg ?_
  iterate 3 refine AOL.s1 (h := ?_)
  refine AOL.nil ?_
  refine AW.kq [1, 3, 6, 9, 10, 11] (h := ?_)
  repeat refine AW.seq ?_
  refine AW.block ?_
  repeat refine AW.seq ?_
  refine AW.loopK [1, 3, 6, 9, 10, 11] (fun n s => ∃ (j : Nat) (b : P3), s = ⟨26, [(1, pl L), (3, .ptr 1048 0), (6, .ptr 1096 0), (9, ul V), (10, i V.length), (11, i j)], [(1048, ⟨32, true, ptc b⟩), (1096, ⟨32, true, [bo false, u 0, u 0]⟩)]⟩ ∧ j ≤ V.length ∧ n = V.length - j ∧ wP3 b ∧ togF b (L.drop j) (V.drop j) = togF a L V) (V.length) ?_ ?_
  · exact ⟨0, a, rfl, Nat.zero_le _, rfl, ha, rfl⟩
  rintro n s ⟨j, b, rfl, jV, rfl, wb, hb⟩
  repeat refine AW.seq ?_
  refine AW.reg ?_
  iterate 1 refine AOL.s1 (h := ?_)
  refine AOL.nil ?_
  refine AW.kq [1, 3, 6, 9, 10, 11, 12] (h := ?_)
  repeat refine AW.seq ?_
  refine AW.cond rfl (fun c_ => ?_) (fun c_ => ?_)
  · have hj : j < V.length := by have : (j:Int) < V.length := by simpa using c_
                                 omega
    have hjL : j < L.length := by omega
    obtain ⟨v, hv, hvw, hvd⟩ := at_nat (V := V) (n := j) (by omega) hV
    have hg : L[j]? = some L[j] := List.getElem?_eq_getElem hjL
    have hgw := hL _ (List.getElem_mem hjL)
    have hgd := pl_at hg
    have j0 : (0:Int) ≤ j := by omega
    have j1 : (j:Int) < V.length := by omega
    have j2 : (j:Int) < L.length := by omega
    have hiw := incq hj (by omega)
    have hn : togF (addG b (mulG L[j] v)) (L.drop (j + 1)) (V.drop (j + 1)) = togF a L V := by
      rw [← hb, List.drop_eq_getElem_cons hj, List.drop_eq_getElem_cons hjL]
      rw [List.getElem?_eq_getElem hj] at hv
      simp only [togF, Option.some.inj hv]
    clear hb hg hv c_
    generalize L[j] = g at *
    have cm := curve_Mul_c (b := g.1) hgw.1 hgw.2 hvw
    have hm : Pt (mulG g v) := mulG_pt g v
    have em : timesP (sureP g.1 g.2.1 g.2.2) v = mulG g v := rfl
    rw [em] at cm
    have cA := curve_Add_c (a0 := b.1) (b0 := (mulG g v).1) wb.1 wb.2 hm.w3.1 hm.w3.2
    have eA : sumP (sureP b.1 b.2.1 b.2.2) (sureP (mulG g v).1 (mulG g v).2.1 (mulG g v).2.2) = addG b (mulG g v) := rfl
    rw [eA] at cA
    have wn := (addG_pt b (mulG g v)).w3
    clear em eA hm
    generalize addG b (mulG g v) = c at *
    generalize mulG g v = m at *
    obtain ⟨m0, m1, m2⟩ := m
    obtain ⟨g0, g1, g2⟩ := g
    obtain ⟨b0, b1, b2⟩ := b
    obtain ⟨c0, c1, c2⟩ := c
    refine AW.skip ?_
    repeat refine AW.seq ?_
    refine AW.block ?_
    repeat refine AW.seq ?_
    refine AW.reg ?_
    iterate 5 refine AOL.s1 (h := ?_)
    refine AOL.nil ?_
    refine AW.kq [1, 3, 6, 7, 8, 9, 10, 11] (h := ?_)
    repeat refine AW.seq ?_
    refine AW.drw 7 [] (by kernel_rfl) (h := ?_)
    iterate 6 refine ADL.dm 1 (h := ?_)
    refine ADL.call rfl (cm) (by kernel_rfl) rfl rfl (h := ?_)
    refine ADL.done hmix rfl rfl (hT := ?_)
    refine AOL.callD rfl (cA) (by kernel_rfl) rfl rfl (h := ?_)
    iterate 1 refine AOL.s1 (h := ?_)
    refine AOL.nil ?_
    repeat refine AW.seq ?_
    refine AW.reg ?_
    iterate 2 refine AOL.s1 (h := ?_)
    refine AOL.nil ?_
    exact ⟨V.length - (j + 1), by omega, j + 1, (c0, c1, c2), rfl, hj, rfl, wn, hn⟩
  · have hj : j = V.length := by have : ¬ (j:Int) < V.length := by simpa using c_
                                 omega
    subst hj
    have hg : b = togF a L V := by
      rw [← hb, List.drop_length]
      cases L.drop V.length <;> rfl
    rw [← hg]
    obtain ⟨b0, b1, b2⟩ := b
    clear hb hg
    repeat refine AW.seq ?_
    refine AW.exit ?_
    repeat (first | refine Kseq.ex ?_ | refine Kloop.ex ?_ | refine Kblock.miss (by decide) ?_)
    refine Kblock.hit ?_
    refine AW.kq [3, 6] (h := ?_)
    repeat refine AW.seq ?_
    refine AW.reg ?_
    iterate 2 refine AOL.s1 (h := ?_)
    refine AOL.nil ?_
    refine AW.kq [6] (h := ?_)
    repeat refine AW.seq ?_
    refine AW.ret ?_
    refine ⟨_, [], rfl, HOk.nil _, ?_⟩
    rfl
end Go.Proofs.Ytdbpjegocmdplaa.E.M

