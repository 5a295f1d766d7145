/- Texts joined: ZVZle, ZVOpc. -/
import Derived.Test.YtngphcdhdllnnaaGreatZW13
import Derived.Test.YtngphcdhdllnnaaGreatProg
import Derived.KernelRfl
import Derived.Test.YtngphcdhdllnnaaGreatZW9
section
/- obollaw18: whatever values hold for a depth's system: the law over E. -/
set_option linter.unusedVariables false
set_option linter.unusedSimpArgs false
set_option maxRecDepth 10000
open Go Go.Proofs.YtngphcdhdllnnaaGreat.E Go.Proofs
namespace Go.Proofs.YtngphcdhdllnnaaGreat.E.M
set_option maxHeartbeats 4000000 in
theorem rank_Holds_long {s : Rk} {V : List Int} (hS : Len s) (hc : chkF s = true) (hl : (V.length : Int) ≠ s.v) : Fn Tryz.prog 22 [.agg (rk s), ul V] [] (fun r h_ => r = er 1) := by
  refine Fn.enter Tryz.func22 Tryz.ntmps22 rfl (h := ?_)
  have tf := tfr
  have ot_ : (false || true) = true := rfl
  obtain ⟨sv, sp, sl_⟩ := s
  have cC := rank_Check_c hS
  rw [hc] at cC
  have cC : Fn Tryz.prog 46 [.agg (rk ⟨sv, sp, sl_⟩)] [] (fun r _ => r = nil_) := cC
  simp only at hl
  have hne : decide ((V.length : Int) ≠ sv) = true := by simpa using hl
  have hne2 : ((V.length : Int) != sv) = true := by simpa using hl
  repeat refine AW.seq ?_
  refine AW.reg ?_
  iterate 2 refine AOL.s1 (h := ?_)
  refine AOL.nil ?_
  refine AW.kq [1, 2] (h := ?_)
  repeat refine AW.seq ?_
  refine AW.reg ?_
  iterate 1 refine AOL.s1 (h := ?_)
  refine AOL.callD rfl (cC) (by kernel_rfl) rfl rfl (h := ?_)
  iterate 1 refine AOL.s1 (h := ?_)
  refine AOL.nil ?_
  refine AW.kq [1, 2, 5] (h := ?_)
  repeat refine AW.seq ?_
  refine AW.reg ?_
  iterate 2 refine AOL.s1 (h := ?_)
  refine AOL.nil ?_
  refine AW.kq [1, 2, 5, 11] (h := ?_)
  repeat refine AW.seq ?_
  refine AW.cond rfl (fun c_ => ?_) (fun c_ => ?_)
  · cases c_
  refine AW.skip ?_
  repeat refine AW.seq ?_
  refine AW.reg ?_
  iterate 6 refine AOL.s1 (h := ?_)
  iterate 5 refine AOL.s1 (h := ?_)
  iterate 4 refine AOL.s1 (h := ?_)
  refine AOL.nil ?_
  refine AW.kq [1, 2, 27] (h := ?_)
  repeat refine AW.seq ?_
  refine AW.cond rfl (fun d_ => ?_) (fun d_ => ?_)
  · repeat refine AW.seq ?_
    refine AW.reg ?_
    iterate 2 refine AOL.s1 (h := ?_)
    refine AOL.nil ?_
    refine AW.kq [4] (h := ?_)
    repeat refine AW.seq ?_
    refine AW.ret ?_
    refine ⟨_, [], rfl, HOk.nil _, ?_⟩
    rfl
  cases d_
theorem gV_atV {V : List Int} {j : Nat} (h : j < V.length) : gV V (j : Int) = atV V j := by
  unfold gV atV
  rw [if_pos ⟨by omega, by omega⟩, Int.toNat_natCast]
theorem atV_lt {V : List Int} (w : VG V) {j : Nat} (h : j < V.length) : 0 ≤ atV V j ∧ atV V j < 288230376287764481 := by rw [← gV_atV h]; exact w.lt _
theorem ixS_take {V : List Int} : ∀ (p : List Int) (n : Nat), n + p.length ≤ V.length → (ixS p n).map (gV V) = (V.drop n).take p.length
  | [], n, _ => by simp [ixS]
  | x :: p, n, h => by
    simp only [List.length_cons] at h
    have h1 : n < V.length := by omega
    simp only [ixS, List.map_cons, List.length_cons]
    rw [ixS_take p (n + 1) (by omega), gV_atV h1, List.drop_eq_getElem_cons h1, List.take_succ_cons]
    unfold atV
    rw [List.getElem?_eq_getElem h1]; rfl
theorem same_vals (m : Mk) (a b : Int) : (sameM m a b).vals = m.vals := rfl
theorem lin_len (m : Mk) (L : List Tm) : (linM m L).vals.length = m.vals.length + 1 := fresh_len m _
theorem out_vals (m : Mk) (e : Int) : (outM m (0, 0, 0) e).vals = (manE (bitM (freshM (freshM (freshM m 0) 0) 0) m.vals.length 32) [(m.vals.length : Int), ((m.vals.length + 1 : Nat) : Int), ((m.vals.length + 2 : Nat) : Int)]).1.vals := by
  have h2 : (freshM (freshM m 0) 0).vals.length = m.vals.length + 2 := by simp only [fresh_len]
  have h1 : (freshM m 0).vals.length = m.vals.length + 1 := fresh_len m 0
  unfold outM
  dsimp only
  rw [same_vals, h2, h1]
set_option maxHeartbeats 4000000 in
theorem rd_len {k : Nat} {d : Int} (hd : d = k) (h1 : 1 ≤ d) (hk : k ≤ 16) : (rdZ1 k).vals.length = (mkG1 (shpM k) d).vals.length ∧ (rdZ2 k).vals.length = (mkG2 (shpM k) d).vals.length ∧ (rdZ5 k).vals.length = (mkG3 (shpM k) d).vals.length := by
  have hz : ((zerL k).length : Int) = d := by rw [List.length_replicate]; exact hd.symm
  have s0 : Shp rdZ0 (pubK (numsH (shpM k))) := pubK_shp (by rw [numsH_len]; rfl)
  have s1 : Shp (rdZ1 k) (mkG1 (shpM k) d) := by
    unfold rdZ1
    rw [hz]
    exact s0.inp _ _ _ _ _ _ _ _ _ _ _ _ rfl _ _ _ _ _
  have s2 : Shp (rdZ2 k) (mkG2 (shpM k) d) := by
    have : Shp (inpM (rdZ1 k) 0 0 0 0 0 (zerL k) ((zerL k).length : Int) 1 4 6 10) (mkG2 (shpM k) d) := by
      rw [hz]
      exact s1.inp _ _ _ _ _ _ _ _ _ _ _ _ rfl _ _ _ _ _
    exact this
  refine ⟨s1.len, s2.len, ?_⟩
  have t1 := s2.fresh 0 0
  have t2 := t1.fresh 0 0
  have t3 := t2.fresh 0 0
  have t4 := t3.bit (mkG2 (shpM k) d).vals.length 32
  have t5 := t4.many [((mkG2 (shpM k) d).vals.length : Int), (((mkG2 (shpM k) d).vals.length + 1 : Nat) : Int), (((mkG2 (shpM k) d).vals.length + 2 : Nat) : Int)]
  have e : (mkG3 (shpM k) d).vals.length = (manE (bitM (freshM (freshM (freshM (mkG2 (shpM k) d) 0) 0) 0) ((mkG2 (shpM k) d).vals.length : Int) 32) [((mkG2 (shpM k) d).vals.length : Int), (((mkG2 (shpM k) d).vals.length + 1 : Nat) : Int), (((mkG2 (shpM k) d).vals.length + 2 : Nat) : Int)]).1.vals.length := congrArg List.length (out_vals (mkG2 (shpM k) d) 7)
  rw [e]
  have h5 := t5.1.len
  rw [← s2.len] at h5 ⊢
  exact h5
theorem out_len {m : Mk} (g : Good m) (e : Int) : m.vals.length + 3 ≤ (outM m (0, 0, 0) e).vals.length := by
  have z0 : (0:Int) ≤ 0 ∧ (0:Int) < 288230376287764481 := by decide
  obtain ⟨lf1, fv⟩ := fresh_lw g z0
  obtain ⟨lf2, _⟩ := fresh_lw lf1.good z0
  obtain ⟨lf3, _⟩ := fresh_lw lf2.good z0
  have lb := (bit_lw lf3.good ((fv.mv lf2).mv lf3) (n := 32) (by decide)).1
  rw [show ((32:Nat):Int) = 32 from rfl] at lb
  have e3 : (freshM (freshM (freshM m 0) 0) 0).vals.length = m.vals.length + 3 := by simp only [fresh_len]
  have e4 := lb.le
  obtain ⟨X, l5, _⟩ := many_law lb.good [(m.vals.length : Int), ((m.vals.length + 1 : Nat) : Int), ((m.vals.length + 2 : Nat) : Int)]
  have e5 := l5.len
  rw [out_vals, e5]
  omega
theorem make_len {k : Nat} {d : Int} (hg : Good (mkG3 (shpM k) d)) : (mkG3 (shpM k) d).vals.length + 3 ≤ (makM (shpM k) d).vals.length := by
  have h1 : (mkG3 (shpM k) d).vals.length + 3 ≤ (mkG4 (shpM k) d).vals.length := out_len hg 8
  have h2 : (makM (shpM k) d).vals.length = (mkG4 (shpM k) d).vals.length + 2 := by
    unfold makM
    rw [same_vals, lin_len, lin_len]
  omega
theorem fmu_map : ∀ V : List Int, fm u1 V = V.map fun n => u n
  | [] => rfl
  | a :: V => by show u a :: fm u1 V = _; rw [fmu_map V]; rfl
theorem fm_td (V : List Int) : ((fm u1 V).drop 1).take 10 = fm u1 ((V.drop 1).take 10) := by rw [fmu_map, fmu_map, List.map_take, List.map_drop]
/-- the plain law: values that hold are those of a move that is right -/
theorem values_law {k : Nat} {d : Int} {V : List Int} (hd : d = k) (h1 : 1 ≤ d) (hk : k ≤ 4) (w : VG V) (hl : V.length = (makM (shpM k) d).vals.length) (s : Sat (makM (shpM k) d) V)
    {n1 n2 n3 : Nat} (e1 : n1 = (mkG1 (shpM k) d).vals.length) (e2 : n2 = (mkG2 (shpM k) d).vals.length) (e3 : n3 = (mkG3 (shpM k) d).vals.length) (b1 : 16 + k ≤ n1) (b2 : n1 + 5 + k ≤ n2) (b3 : n2 + 3 ≤ n3) (b4 : n3 + 3 ≤ V.length) :
    fitsH (rdM V k n1 n2 n3) d = true ∧ rightH (rdM V k n1 n2 n3) = true ∧ numsH (rdM V k n1 n2 n3) = (V.drop 1).take 10 ∧ atV V 15 < 2 ^ k ∧ atV V (n1 + 4) < 2 ^ k := by
  have hf := shpM_f (n := k) (by omega) ⟨h1, by omega⟩ hd
  have fr := frM.of (shpM_w (by omega)) hf
  obtain ⟨xK, xV, xO, xH, xA, yK, yV, yO, yH, yA, xP, yP, cx, cy, cp, cq, cs⟩ := Sat.make fr w s
  rw [← e1] at cy
  rw [← e2] at cp cs
  rw [← e3] at cq cs
  obtain ⟨x1, x2, x3, x4, x5, x6, x7, x8, x9, x10, x11, x12⟩ := cx
  obtain ⟨y1, y2, y3, y4, y5, y6, y7, y8, y9, y10, y11, y12⟩ := cy
  have lr : (shpM k).x.p.length = k := List.length_replicate
  have lr2 : (shpM k).y.p.length = k := List.length_replicate
  rw [ixS_take _ _ (by rw [lr]; omega), lr] at x6
  rw [ixS_take _ _ (by rw [lr2]; omega), lr2] at y6
  rw [lr] at x12
  rw [lr2] at y12
  have g : ∀ j : Nat, j < V.length → gV V (j : Int) = atV V j := fun j h => gV_atV h
  have g1 : gV V 1 = atV V 1 := g 1 (by omega)
  have g2 : gV V 2 = atV V 2 := g 2 (by omega)
  have g3 : gV V 3 = atV V 3 := g 3 (by omega)
  have g4 : gV V 4 = atV V 4 := g 4 (by omega)
  have g5 : gV V 5 = atV V 5 := g 5 (by omega)
  have g6 : gV V 6 = atV V 6 := g 6 (by omega)
  have g7 : gV V 7 = atV V 7 := g 7 (by omega)
  have g8 : gV V 8 = atV V 8 := g 8 (by omega)
  have g9 : gV V 9 = atV V 9 := g 9 (by omega)
  have g10 : gV V 10 = atV V 10 := g 10 (by omega)
  rw [show gV V 11 = atV V 11 from g 11 (by omega)] at x1
  rw [show gV V 12 = atV V 12 from g 12 (by omega)] at x2
  rw [show gV V 13 = atV V 13 from g 13 (by omega)] at x3
  rw [show gV V 14 = atV V 14 from g 14 (by omega)] at x4
  rw [show gV V 15 = atV V 15 from g 15 (by omega)] at x5
  rw [g n1 (by omega)] at y1
  rw [g (n1 + 1) (by omega)] at y2
  rw [g (n1 + 2) (by omega)] at y3
  rw [g (n1 + 3) (by omega)] at y4
  rw [g (n1 + 4) (by omega)] at y5
  rw [g n2 (by omega), g (n2 + 1) (by omega), g (n2 + 2) (by omega), g7] at cp
  rw [g n3 (by omega), g (n3 + 1) (by omega), g (n3 + 2) (by omega), g8] at cq
  rw [g n2 (by omega), g n3 (by omega), g2, g3] at cs
  rw [g1] at x8 y8
  rw [g4] at x10 y10
  rw [g5] at x9
  rw [g6] at y9
  rw [g9] at x10
  rw [g10] at y10
  have lt : ∀ j : Nat, j < V.length → 0 ≤ atV V j ∧ atV V j < 288230376287764481 := fun j h => atV_lt w h
  have hp4 : (2:Int) ^ k ≤ 2 ^ 4 := by exact_mod_cast Nat.pow_le_pow_right (n := 2) (by decide) hk
  have am : xA % 65536 = xA := Int.emod_eq_of_lt x11 (by omega)
  have bm : yA % 65536 = yA := Int.emod_eq_of_lt y11 (by omega)
  have tX : takI V 11 k = ⟨xK, (xV, xO, xH), xA, xP⟩ := by
    show (⟨atV V 11, (atV V 12, atV V 13, atV V 14), atV V 15 % 65536, (V.drop 16).take k⟩ : Ip) = _
    rw [← x1, ← x2, ← x3, ← x4, ← x5, am, ← x6]
  have tY : takI V n1 k = ⟨yK, (yV, yO, yH), yA, yP⟩ := by
    unfold takI
    rw [← y1, ← y2, ← y3, ← y4, ← y5, bm, ← y6]
  have lX : xP.length = k := by rw [x6, List.length_take, List.length_drop]; omega
  have lY : yP.length = k := by rw [y6, List.length_take, List.length_drop]; omega
  have mem : ∀ v ∈ V, 0 ≤ v ∧ v < 288230376287764481 := by
    intro v hv
    obtain ⟨j, hj, rfl⟩ := List.mem_iff_getElem.1 hv
    have := lt j hj
    unfold atV at this
    rw [List.getElem?_eq_getElem hj] at this
    exact this
  have aX : xP.all bw = true := by
    rw [List.all_eq_true]; intro v hv
    rw [x6] at hv
    unfold bw; rw [decide_eq_true_eq]
    exact (mem v (List.mem_of_mem_drop (List.mem_of_mem_take hv))).2
  have aY : yP.all bw = true := by
    rw [List.all_eq_true]; intro v hv
    rw [y6] at hv
    unfold bw; rw [decide_eq_true_eq]
    exact (mem v (List.mem_of_mem_drop (List.mem_of_mem_take hv))).2
  have rM : rdM V k n1 n2 n3 = ⟨atV V 1, atV V 2, atV V 3, atV V 4, ⟨xK, (xV, xO, xH), xA, xP⟩, ⟨yK, (yV, yO, yH), yA, yP⟩, (atV V n2, atV V (n2 + 1), atV V (n2 + 2)), (atV V n3, atV V (n3 + 1), atV V (n3 + 2))⟩ := by unfold rdM; rw [tX, tY]
  rw [rM]
  have tk : d.toNat = k := by omega
  have nx : nonneg xA = xA := by unfold nonneg; rw [if_neg (by omega)]
  have ny : nonneg yA = yA := by unfold nonneg; rw [if_neg (by omega)]
  have hT : (V.drop 1).take 10 = [atV V 1, atV V 2, atV V 3, atV V 4, atV V 5, atV V 6, atV V 7, atV V 8, atV V 9, atV V 10] := by
    have hj : ∀ j n : Nat, j < V.length → (V.drop j).take (n + 1) = atV V j :: (V.drop (j + 1)).take n := by
      intro j n h
      rw [List.drop_eq_getElem_cons h, List.take_succ_cons]
      unfold atV
      rw [List.getElem?_eq_getElem h]; rfl
    rw [hj 1 9 (by omega), hj 2 8 (by omega), hj 3 7 (by omega), hj 4 6 (by omega), hj 5 5 (by omega), hj 6 4 (by omega), hj 7 3 (by omega), hj 8 2 (by omega), hj 9 1 (by omega), hj 10 0 (by omega), List.take_zero]
  refine ⟨?_, ?_, ?_, by rw [← x5]; exact x12, by rw [← y5]; exact y12⟩
  · simp only [fitsH, hdF, inF, outF, aX, aY, bw, Bool.and_true, Bool.and_eq_true, decide_eq_true_eq, tk, lX, lY]
    have h1' := lt 1 (by omega)
    have h2' := lt 2 (by omega)
    have h3' := lt 3 (by omega)
    have h4' := lt 4 (by omega)
    have p0 := lt n2 (by omega)
    have p1 := lt (n2 + 1) (by omega)
    have p2 := lt (n2 + 2) (by omega)
    have q0 := lt n3 (by omega)
    have q1 := lt (n3 + 1) (by omega)
    have q2 := lt (n3 + 2) (by omega)
    have a0 := lt 11 (by omega)
    have a1 := lt 12 (by omega)
    have a2 := lt 13 (by omega)
    have a3 := lt 14 (by omega)
    have c0 := lt n1 (by omega)
    have c1 := lt (n1 + 1) (by omega)
    have c2 := lt (n1 + 2) (by omega)
    have c3 := lt (n1 + 3) (by omega)
    rw [← x1] at a0
    rw [← x2] at a1
    rw [← x3] at a2
    rw [← x4] at a3
    rw [← y1] at c0
    rw [← y2] at c1
    rw [← y3] at c2
    rw [← y4] at c3
    exact ⟨⟨⟨⟨⟨⟨⟨h1, by omega⟩, h1'.2⟩, h2'.2⟩, h3'.2⟩, h4'.2⟩, ⟨⟨⟨⟨⟨⟨hd.symm, x11⟩, x12⟩, a0.2⟩, a1.2⟩, a2.2⟩, a3.2⟩, ⟨p0.2, p1.2⟩, p2.2⟩, ⟨⟨⟨⟨⟨⟨hd.symm, y11⟩, y12⟩, c0.2⟩, c1.2⟩, c2.2⟩, c3.2⟩, ⟨q0.2, q1.2⟩, q2.2⟩
  · have e5 : rAdd (rAdd (atV V 2) xV) yV = rAdd (rAdd (atV V 3) (atV V n2)) (atV V n3) := by
      unfold rAdd
      rw [show ((atV V 2 + xV) % 288230376287764481 + yV) % 288230376287764481 = (atV V 2 + (xV + yV)) % 288230376287764481 by omega, show ((atV V 3 + atV V n2) % 288230376287764481 + atV V n3) % 288230376287764481 = (atV V 3 + (atV V n2 + atV V n3)) % 288230376287764481 by omega]
      exact cs
    unfold rightH okI
    simp only [Bool.and_eq_true, Bool.or_eq_true, decide_eq_true_eq, nx, ny]
    exact ⟨⟨⟨⟨x7, x8⟩, cp.1⟩, ⟨y7, y8⟩, cq.1⟩, e5⟩
  · rw [hT]
    unfold numsH endH
    simp only
    rw [x9, y9, cp.2, cq.2, x10, y10]
set_option maxHeartbeats 4000000 in
theorem CircuitValues_n {V : List Int} {d : Int} (hd : ¬ (1 ≤ d ∧ d ≤ 4)) : Fn Tryz.prog 4 [ul V, i d] [] (fun r h_ => r = bo true) := by
  refine Fn.enter Tryz.func4 Tryz.ntmps4 rfl (h := ?_)
  have tf := tfm
  have ot_ : (false || true) = true := rfl
  have tfv := tfv
  have tfm := tfm
  have tfn := tfn
  have tfr := tfr
  have n0 : Int.toNat 0 = 0 := rfl
  have n1 : Int.toNat 1 = 1 := rfl
  have q0 : (0:Int) ≤ 0 := by decide
  have q1' : (0:Int) ≤ 1 := by decide
  have x02 : (0:Int) < ((2:Nat):Int) := by decide
  have x12 : (1:Int) < ((2:Nat):Int) := by decide
  have z02 : (0:Int) < 2 := by decide
  have z12 : (1:Int) < 2 := by decide
  have a1_ : IntKind.i64.wrap (0 + 1) = 1 := by decide
  have a2_ : IntKind.i64.wrap (1 + 1) = 2 := by decide
  have i02 : decide ((0:Int) < 2) = true := rfl
  have i12 : decide ((1:Int) < 2) = true := rfl
  have i22 : decide ((2:Int) < 2) = false := rfl
  have hb : (decide (d < 1) || decide (d > 4)) = true := by
    rw [Bool.or_eq_true, decide_eq_true_eq, decide_eq_true_eq]; omega
  repeat refine AW.seq ?_
  refine AW.reg ?_
  iterate 1 refine AOL.s1 (h := ?_)
  refine AOL.nil ?_
  refine AW.kq [0, 1] (h := ?_)
  repeat refine AW.seq ?_
  refine AW.reg ?_
  refine AOL.callD rfl (obollaw18_up_c) (by kernel_rfl) rfl rfl (h := ?_)
  iterate 1 refine AOL.s1 (h := ?_)
  refine AOL.nil ?_
  refine AW.kq [0, 1, 5] (h := ?_)
  repeat refine AW.seq ?_
  refine AW.reg ?_
  iterate 3 refine AOL.s1 (h := ?_)
  refine AOL.kq [0, 1, 5, 14] (h := ?_)
  refine AOL.or 14 17 (os' := ?_) (x := ?_) (h1 := ?_) (h0 := ?_) (h := ?_)
  rotate_left 2
  iterate 2
    · intro hb_ K' hK; (iterate 3 refine AOL.s1 (h := ?_)); refine AOL.kq [0, 1, 5, 17] (h := ?_); exact hK
  refine AOL.nil ?_
  refine AW.kq [0, 1, 5, 17] (h := ?_)
  repeat refine AW.seq ?_
  refine AW.cond rfl (fun c_ => ?_) (fun c_ => ?_)
  · skip
    repeat refine AW.seq ?_
    refine AW.reg ?_
    iterate 2 refine AOL.s1 (h := ?_)
    refine AOL.nil ?_
    refine AW.kq [4] (h := ?_)
    repeat refine AW.seq ?_
    refine AW.ret ?_
    refine ⟨_, [], rfl, HOk.nil _, ?_⟩
    rfl
  exact absurd (by simpa using c_) hd
set_option maxHeartbeats 4000000 in
theorem CircuitValues_o {V : List Int} {d : Int} (hd : 1 ≤ d ∧ d ≤ 4) {s : Rk} (cS : Fn Tryz.prog 19 [i d] [] (fun r _ => r = .tup [.agg (rk s), .val .nilIface])) {e : AV} (he : e = er 1 ∨ ∃ j : Nat, e = spot j 8) (cH : Fn Tryz.prog 22 [.agg (rk s), ul V] [] (fun r _ => r = e)) : Fn Tryz.prog 4 [ul V, i d] [] (fun r h_ => r = bo true) := by
  refine Fn.enter Tryz.func4 Tryz.ntmps4 rfl (h := ?_)
  have tf := tfm
  have ot_ : (false || true) = true := rfl
  have tfv := tfv
  have tfm := tfm
  have tfn := tfn
  have tfr := tfr
  have n0 : Int.toNat 0 = 0 := rfl
  have n1 : Int.toNat 1 = 1 := rfl
  have q0 : (0:Int) ≤ 0 := by decide
  have q1' : (0:Int) ≤ 1 := by decide
  have x02 : (0:Int) < ((2:Nat):Int) := by decide
  have x12 : (1:Int) < ((2:Nat):Int) := by decide
  have z02 : (0:Int) < 2 := by decide
  have z12 : (1:Int) < 2 := by decide
  have a1_ : IntKind.i64.wrap (0 + 1) = 1 := by decide
  have a2_ : IntKind.i64.wrap (1 + 1) = 2 := by decide
  have i02 : decide ((0:Int) < 2) = true := rfl
  have i12 : decide ((1:Int) < 2) = true := rfl
  have i22 : decide ((2:Int) < 2) = false := rfl
  have hb : (decide (d < 1) || decide (d > 4)) = false := by
    rw [Bool.or_eq_false_iff, decide_eq_false_iff_not, decide_eq_false_iff_not]; omega
  obtain ⟨sv, sp, sl_⟩ := s
  repeat refine AW.seq ?_
  refine AW.reg ?_
  iterate 1 refine AOL.s1 (h := ?_)
  refine AOL.nil ?_
  refine AW.kq [0, 1] (h := ?_)
  repeat refine AW.seq ?_
  refine AW.reg ?_
  refine AOL.callD rfl (obollaw18_up_c) (by kernel_rfl) rfl rfl (h := ?_)
  iterate 1 refine AOL.s1 (h := ?_)
  refine AOL.nil ?_
  refine AW.kq [0, 1, 5] (h := ?_)
  repeat refine AW.seq ?_
  refine AW.reg ?_
  iterate 3 refine AOL.s1 (h := ?_)
  refine AOL.kq [0, 1, 5, 14] (h := ?_)
  refine AOL.or 14 17 (os' := ?_) (x := ?_) (h1 := ?_) (h0 := ?_) (h := ?_)
  rotate_left 2
  iterate 2
    · intro hb_ K' hK; (iterate 3 refine AOL.s1 (h := ?_)); refine AOL.kq [0, 1, 5, 17] (h := ?_); exact hK
  refine AOL.nil ?_
  refine AW.kq [0, 1, 5, 17] (h := ?_)
  repeat refine AW.seq ?_
  refine AW.cond rfl (fun c_ => ?_) (fun c_ => ?_)
  · have c2 : d < 1 ∨ 4 < d := by simpa using c_
    omega
  refine AW.skip ?_
  repeat refine AW.seq ?_
  refine AW.reg ?_
  iterate 1 refine AOL.s1 (h := ?_)
  refine AOL.callD rfl (cS) (by kernel_rfl) rfl rfl (h := ?_)
  iterate 6 refine AOL.s1 (h := ?_)
  refine AOL.nil ?_
  refine AW.kq [0, 1, 5, 6, 7] (h := ?_)
  repeat refine AW.seq ?_
  refine AW.reg ?_
  iterate 2 refine AOL.s1 (h := ?_)
  rcases he with rfl | ⟨j, rfl⟩
  · refine AOL.callD rfl (cH) (by kernel_rfl) rfl rfl (h := ?_)
    iterate 1 refine AOL.s1 (h := ?_)
    refine AOL.nil ?_
    refine AW.kq [0, 1, 5, 6, 7, 8] (h := ?_)
    repeat refine AW.seq ?_
    refine AW.reg ?_
    iterate 6 refine AOL.s1 (h := ?_)
    refine AOL.nil ?_
    refine AW.kq [0, 1, 5, 6, 7, 32] (h := ?_)
    repeat refine AW.seq ?_
    refine AW.cond rfl (fun d_ => ?_) (fun d_ => ?_)
    · repeat refine AW.seq ?_
      refine AW.reg ?_
      iterate 6 refine AOL.s1 (h := ?_)
      refine AOL.nil ?_
      refine AW.kq [4] (h := ?_)
      repeat refine AW.seq ?_
      refine AW.ret ?_
      refine ⟨_, [], rfl, HOk.nil _, ?_⟩
      rfl
    · simp at d_
  refine AOL.callD rfl (cH) (by kernel_rfl) rfl rfl (h := ?_)
  iterate 1 refine AOL.s1 (h := ?_)
  refine AOL.nil ?_
  refine AW.kq [0, 1, 5, 6, 7, 8] (h := ?_)
  repeat refine AW.seq ?_
  refine AW.reg ?_
  iterate 3 refine AOL.s1 (h := ?_)
  skip
  iterate 3 refine AOL.s1 (h := ?_)
  refine AOL.nil ?_
  refine AW.kq [0, 1, 5, 6, 7, 32] (h := ?_)
  repeat refine AW.seq ?_
  refine AW.cond rfl (fun c_ => ?_) (fun c_ => ?_)
  · skip
    repeat refine AW.seq ?_
    refine AW.reg ?_
    iterate 2 refine AOL.s1 (h := ?_)
    skip
    iterate 3 refine AOL.s1 (h := ?_)
    iterate 1 refine AOL.s1 (h := ?_)
    refine AOL.nil ?_
    refine AW.kq [4] (h := ?_)
    repeat refine AW.seq ?_
    refine AW.ret ?_
    refine ⟨_, [], rfl, HOk.nil _, ?_⟩
    rfl
  simp at c_
set_option maxHeartbeats 8000000 in
theorem CircuitValues_y {mr mi mo ms xk xv xo xr xa : Int} {xp : List Int} {yk yv yo yr ya : Int} {yp : List Int} {pv po pr qv qo qr d : Int} {V : List Int} (hd : 1 ≤ d ∧ d ≤ 4) (hV : wV V) (lV : V.length < 1000000) {sp : Int} {L : List Rw} (cS : Fn Tryz.prog 19 [i d] [] (fun r _ => r = .tup [.agg [i V.length, i sp, slF rw_ L], .val .nilIface])) (cH : Fn Tryz.prog 22 [.agg [i V.length, i sp, slF rw_ L], ul V] [] (fun r _ => r = nil_))
    (cR : Fn Tryz.prog 23 [.agg [i V.length, i sp, slF rw_ L], ul V, i d] [] (fun r _ => r = .tup [.agg (mvc ((⟨mr, mi, mo, ms, ⟨xk, (xv, xo, xr), xa, xp⟩, ⟨yk, (yv, yo, yr), ya, yp⟩, (pv, po, pr), (qv, qo, qr)⟩ : Mv))), bo true])) (hM : wM ((⟨mr, mi, mo, ms, ⟨xk, (xv, xo, xr), xa, xp⟩, ⟨yk, (yv, yo, yr), ya, yp⟩, (pv, po, pr), (qv, qo, qr)⟩ : Mv))) (ha : 0 ≤ ((⟨mr, mi, mo, ms, ⟨xk, (xv, xo, xr), xa, xp⟩, ⟨yk, (yv, yo, yr), ya, yp⟩, (pv, po, pr), (qv, qo, qr)⟩ : Mv)).x.a ∧ 0 ≤ ((⟨mr, mi, mo, ms, ⟨xk, (xv, xo, xr), xa, xp⟩, ⟨yk, (yv, yo, yr), ya, yp⟩, (pv, po, pr), (qv, qo, qr)⟩ : Mv)).y.a) (hp : ((⟨mr, mi, mo, ms, ⟨xk, (xv, xo, xr), xa, xp⟩, ⟨yk, (yv, yo, yr), ya, yp⟩, (pv, po, pr), (qv, qo, qr)⟩ : Mv)).x.p.length < 1000000000 ∧ ((⟨mr, mi, mo, ms, ⟨xk, (xv, xo, xr), xa, xp⟩, ⟨yk, (yv, yo, yr), ya, yp⟩, (pv, po, pr), (qv, qo, qr)⟩ : Mv)).y.p.length < 1000000000)
    (f1 : fitsH ((⟨mr, mi, mo, ms, ⟨xk, (xv, xo, xr), xa, xp⟩, ⟨yk, (yv, yo, yr), ya, yp⟩, (pv, po, pr), (qv, qo, qr)⟩ : Mv)) d = true) (f2 : rightH ((⟨mr, mi, mo, ms, ⟨xk, (xv, xo, xr), xa, xp⟩, ⟨yk, (yv, yo, yr), ya, yp⟩, (pv, po, pr), (qv, qo, qr)⟩ : Mv)) = true) (f3 : numsH ((⟨mr, mi, mo, ms, ⟨xk, (xv, xo, xr), xa, xp⟩, ⟨yk, (yv, yo, yr), ya, yp⟩, (pv, po, pr), (qv, qo, qr)⟩ : Mv)) = (V.drop 1).take 10) (h11 : 11 ≤ V.length) : Fn Tryz.prog 4 [ul V, i d] [] (fun r h_ => r = bo true) := by
  refine Fn.enter Tryz.func4 Tryz.ntmps4 rfl (h := ?_)
  have tf := tfm
  have ot_ : (false || true) = true := rfl
  have tfv := tfv
  have tfm := tfm
  have tfn := tfn
  have tfr := tfr
  have n0 : Int.toNat 0 = 0 := rfl
  have n1 : Int.toNat 1 = 1 := rfl
  have q0 : (0:Int) ≤ 0 := by decide
  have q1' : (0:Int) ≤ 1 := by decide
  have x02 : (0:Int) < ((2:Nat):Int) := by decide
  have x12 : (1:Int) < ((2:Nat):Int) := by decide
  have z02 : (0:Int) < 2 := by decide
  have z12 : (1:Int) < 2 := by decide
  have a1_ : IntKind.i64.wrap (0 + 1) = 1 := by decide
  have a2_ : IntKind.i64.wrap (1 + 1) = 2 := by decide
  have i02 : decide ((0:Int) < 2) = true := rfl
  have i12 : decide ((1:Int) < 2) = true := rfl
  have i22 : decide ((2:Int) < 2) = false := rfl
  have hb : (decide (d < 1) || decide (d > 4)) = false := by
    rw [Bool.or_eq_false_iff, decide_eq_false_iff_not, decide_eq_false_iff_not]; omega
  have cF := obolref18_Fits_c (d := d) hM
  have cG := obolref18_Right_c hM hp
  have cN := obolref18_Numbers_c hM ha
  have wN := numsH_w hM
  have lN := numsH_len ((⟨mr, mi, mo, ms, ⟨xk, (xv, xo, xr), xa, xp⟩, ⟨yk, (yv, yo, yr), ya, yp⟩, (pv, po, pr), (qv, qo, qr)⟩ : Mv))
  have cSa := obolref13_Same_c wN wN (by rw [lN]; decide)
  rw [show sameF (numsH ((⟨mr, mi, mo, ms, ⟨xk, (xv, xo, xr), xa, xp⟩, ⟨yk, (yv, yo, yr), ya, yp⟩, (pv, po, pr), (qv, qo, qr)⟩ : Mv))) (numsH ((⟨mr, mi, mo, ms, ⟨xk, (xv, xo, xr), xa, xp⟩, ⟨yk, (yv, yo, yr), ya, yp⟩, (pv, po, pr), (qv, qo, qr)⟩ : Mv))) = true by simp [sameF]] at cSa
  rw [f1] at cF
  rw [f2] at cG
  obtain ⟨N, hN⟩ : ∃ x, x = numsH ((⟨mr, mi, mo, ms, ⟨xk, (xv, xo, xr), xa, xp⟩, ⟨yk, (yv, yo, yr), ya, yp⟩, (pv, po, pr), (qv, qo, qr)⟩ : Mv)) := ⟨_, rfl⟩
  rw [← hN] at cN cSa lN f3
  have lVb : (11:Int) ≤ V.length := by omega
  have hsl : ∀ h, aSlice Tryz.prog 25 h (AV.sl V.length (fm u1 V)) (some (.val (.int .i64 1))) (some (.val (.int .i64 11))) none = some (ul N) := by
    intro h
    have e : AV.sl 10 (((fm u1 V).drop 1).take 10) = ul N := by
      show _ = AV.sl N.length (fm u1 N)
      rw [lN, f3, ← fm_td]
    simp only [aSlice, bnd, intOf?, tfr, Option.bind_some, Option.map_some]
    rw [if_pos ⟨by decide, by decide, lVb⟩]
    exact congrArg some e
  have lV1 : (fm u1 V).length = V.length := by rw [fm_len u1_len, Nat.mul_one]
  have t1_ : Int.toNat 1 = 1 := rfl
  have t11_ : Int.toNat 11 = 11 := rfl
  have s1_ : (1:Int) ≤ 11 := by decide
  have s11_ : (11:Int) ≤ V.length := by omega
  clear f1 f2 f3 hN lN wN hM ha hp
  replace cR : Fn Tryz.prog 23 [.agg [i V.length, i sp, slF rw_ L], ul V, i d] [] (fun r _ => r = .tup [.agg [u mr, u mi, u mo, u ms, u xk, u xv, u xo, u xr, i xa, ul xp, u yk, u yv, u yo, u yr, i ya, ul yp, u pv, u po, u pr, u qv, u qo, u qr], bo true]) := cR
  replace cF : Fn Tryz.prog 8 [.agg [u mr, u mi, u mo, u ms, u xk, u xv, u xo, u xr, i xa, ul xp, u yk, u yv, u yo, u yr, i ya, ul yp, u pv, u po, u pr, u qv, u qo, u qr], i d] [] (fun r _ => r = bo true) := cF
  replace cG : Fn Tryz.prog 24 [.agg [u mr, u mi, u mo, u ms, u xk, u xv, u xo, u xr, i xa, ul xp, u yk, u yv, u yo, u yr, i ya, ul yp, u pv, u po, u pr, u qv, u qo, u qr]] [] (fun r _ => r = bo true) := cG
  replace cN : Fn Tryz.prog 10 [.agg [u mr, u mi, u mo, u ms, u xk, u xv, u xo, u xr, i xa, ul xp, u yk, u yv, u yo, u yr, i ya, ul yp, u pv, u po, u pr, u qv, u qo, u qr]] [] (fun r _ => r = ul N) := cN
  repeat refine AW.seq ?_
  refine AW.reg ?_
  iterate 1 refine AOL.s1 (h := ?_)
  refine AOL.nil ?_
  refine AW.kq [0, 1] (h := ?_)
  repeat refine AW.seq ?_
  refine AW.reg ?_
  refine AOL.callD rfl (obollaw18_up_c) (by kernel_rfl) rfl rfl (h := ?_)
  iterate 1 refine AOL.s1 (h := ?_)
  refine AOL.nil ?_
  refine AW.kq [0, 1, 5] (h := ?_)
  repeat refine AW.seq ?_
  refine AW.reg ?_
  iterate 3 refine AOL.s1 (h := ?_)
  refine AOL.kq [0, 1, 5, 14] (h := ?_)
  refine AOL.or 14 17 (os' := ?_) (x := ?_) (h1 := ?_) (h0 := ?_) (h := ?_)
  rotate_left 2
  iterate 2
    · intro hb_ K' hK; (iterate 3 refine AOL.s1 (h := ?_)); refine AOL.kq [0, 1, 5, 17] (h := ?_); exact hK
  refine AOL.nil ?_
  refine AW.kq [0, 1, 5, 17] (h := ?_)
  repeat refine AW.seq ?_
  refine AW.cond rfl (fun c_ => ?_) (fun c_ => ?_)
  · have c2 : d < 1 ∨ 4 < d := by simpa using c_
    omega
  refine AW.skip ?_
  repeat refine AW.seq ?_
  refine AW.reg ?_
  iterate 1 refine AOL.s1 (h := ?_)
  refine AOL.callD rfl (cS) (by kernel_rfl) rfl rfl (h := ?_)
  iterate 6 refine AOL.s1 (h := ?_)
  refine AOL.nil ?_
  refine AW.kq [0, 1, 5, 6, 7] (h := ?_)
  repeat refine AW.seq ?_
  refine AW.reg ?_
  iterate 2 refine AOL.s1 (h := ?_)
  refine AOL.callD rfl (cH) (by kernel_rfl) rfl rfl (h := ?_)
  iterate 1 refine AOL.s1 (h := ?_)
  refine AOL.nil ?_
  refine AW.kq [0, 1, 5, 6, 7, 8] (h := ?_)
  repeat refine AW.seq ?_
  refine AW.reg ?_
  iterate 3 refine AOL.s1 (h := ?_)
  skip
  iterate 3 refine AOL.s1 (h := ?_)
  refine AOL.nil ?_
  refine AW.kq [0, 1, 5, 6, 7, 32] (h := ?_)
  repeat refine AW.seq ?_
  refine AW.cond rfl (fun c_ => ?_) (fun c_ => ?_)
  · simp at c_
  refine AW.skip ?_
  repeat refine AW.seq ?_
  refine AW.reg ?_
  iterate 3 refine AOL.s1 (h := ?_)
  refine AOL.callD rfl (cR) (by kernel_rfl) rfl rfl (h := ?_)
  iterate 6 refine AOL.s1 (h := ?_)
  refine AOL.nil ?_
  refine AW.kq [0, 1, 5, 9, 10] (h := ?_)
  repeat refine AW.seq ?_
  refine AW.drw 18 [] (by kernel_rfl) (h := ?_)
  iterate 7 refine ADL.dm 1 (h := ?_)
  refine ADL.call rfl (cF) (by kernel_rfl) rfl rfl (h := ?_)
  iterate 3 refine ADL.dm 1 (h := ?_)
  refine ADL.call rfl (cG) (by kernel_rfl) rfl rfl (h := ?_)
  iterate 5 refine ADL.dm 1 (h := ?_)
  refine ADL.call rfl (cN) (by kernel_rfl) rfl rfl (h := ?_)
  refine ADL.done hmix rfl rfl (hT := ?_)
  skip
  refine AOL.callD rfl (cSa) (by kernel_rfl) rfl rfl (h := ?_)
  iterate 1 refine AOL.s1 (h := ?_)
  iterate 1 refine AOL.s1 (h := ?_)
  refine AOL.nil ?_
  refine AW.kq [4] (h := ?_)
  repeat refine AW.seq ?_
  refine AW.ret ?_
  refine ⟨_, [], rfl, HOk.nil _, ?_⟩
  rfl
theorem CircuitValues_z {M : Mv} {V : List Int} {d : Int} (hd : 1 ≤ d ∧ d ≤ 4) (hV : wV V) (lV : V.length < 1000000) {sp : Int} {L : List Rw} (cS : Fn Tryz.prog 19 [i d] [] (fun r _ => r = .tup [.agg [i V.length, i sp, slF rw_ L], .val .nilIface])) (cH : Fn Tryz.prog 22 [.agg [i V.length, i sp, slF rw_ L], ul V] [] (fun r _ => r = nil_))
    (cR : Fn Tryz.prog 23 [.agg [i V.length, i sp, slF rw_ L], ul V, i d] [] (fun r _ => r = .tup [.agg (mvc M), bo true])) (hM : wM M) (ha : 0 ≤ M.x.a ∧ 0 ≤ M.y.a) (hp : M.x.p.length < 1000000000 ∧ M.y.p.length < 1000000000)
    (f1 : fitsH M d = true) (f2 : rightH M = true) (f3 : numsH M = (V.drop 1).take 10) (h11 : 11 ≤ V.length) : Fn Tryz.prog 4 [ul V, i d] [] (fun r _ => r = bo true) := by
  obtain ⟨mr, mi, mo, ms, ⟨xk, ⟨xv, xo, xr⟩, xa, xp⟩, ⟨yk, ⟨yv, yo, yr⟩, ya, yp⟩, ⟨pv, po, pr⟩, ⟨qv, qo, qr⟩⟩ := M
  exact CircuitValues_y hd hV lV cS cH cR hM ha hp f1 f2 f3 h11
theorem gd_mk3 {m : Mv} {d : Int} (h : frM m d) : Good (mkG3 m d) := by
  obtain ⟨mr, mi, mo, ms, ⟨xk, ⟨xv, xo, xr⟩, xa, xp⟩, ⟨yk, ⟨yv, yo, yr⟩, ya, yp⟩, ⟨pv, po, pr⟩, ⟨qv, qo, qr⟩⟩ := m
  obtain ⟨h1, h2, h3, h4, ⟨x1, ⟨x2, x3, x4⟩, xl, xl2, x5, x6⟩, ⟨y1, ⟨y2, y3, y4⟩, yl, yl2, y5, y6⟩, ⟨p1, p2, p3⟩, ⟨q1, q2, q3⟩⟩ := h
  simp only at h1 h2 h3 h4 x1 x2 x3 x4 xl xl2 x5 x6 y1 y2 y3 y4 yl yl2 y5 y6 p1 p2 p3 q1 q2 q3
  obtain ⟨N, hN⟩ : ∃ x, x = numsH (⟨mr, mi, mo, ms, ⟨xk, (xv, xo, xr), xa, xp⟩, ⟨yk, (yv, yo, yr), ya, yp⟩, (pv, po, pr), (qv, qo, qr)⟩ : Mv) := ⟨_, rfl⟩
  have lN : N.length = 10 := by rw [hN]; exact numsH_len _
  have l0 : (pubK N).vals.length = 11 := by simp [pubK, lN]
  have fA : ∀ n : Nat, n < 11 → ∃ x, Vl (pubK N) n x := fun n hn => ⟨_, by omega, by rw [l0]; omega, rfl⟩
  obtain ⟨t1, f1⟩ := fA 1 (by decide)
  obtain ⟨t4, f4⟩ := fA 4 (by decide)
  obtain ⟨t5, f5⟩ := fA 5 (by decide)
  obtain ⟨t6, f6⟩ := fA 6 (by decide)
  obtain ⟨t7, f7⟩ := fA 7 (by decide)
  obtain ⟨t9, f9⟩ := fA 9 (by decide)
  obtain ⟨t10, f10⟩ := fA 10 (by decide)
  replace f1 : Vl (pubK N) 1 t1 := f1
  replace f4 : Vl (pubK N) 4 t4 := f4
  replace f5 : Vl (pubK N) 5 t5 := f5
  replace f6 : Vl (pubK N) 6 t6 := f6
  replace f7 : Vl (pubK N) 7 t7 := f7
  replace f9 : Vl (pubK N) 9 t9 := f9
  replace f10 : Vl (pubK N) 10 t10 := f10
  obtain ⟨l1, _⟩ := inp_lw (pubK_good N) x1 x2 x3 x4 x6 xl2 x5 xl f1 f4 f5 f9
  obtain ⟨l2, _⟩ := inp_lw l1.good y1 y2 y3 y4 y6 yl2 y5 yl (f1.mv l1) (f4.mv l1) (f6.mv l1) (f10.mv l1)
  obtain ⟨l3, _⟩ := out_lw l2.good p1 p2 p3 ((f7.mv l1).mv l2)
  have g3 := l3.good
  subst hN
  exact g3
theorem rdM_w {V : List Int} (hV : wV V) {k n1 n2 n3 : Nat} (hk : k ≤ 16) : wM (rdM V k n1 n2 n3) := by
  have w := fun j => atV_w hV j
  have wt : ∀ n, wV ((V.drop n).take k) := fun n v hv => hV v (List.mem_of_mem_drop (List.mem_of_mem_take hv))
  have lt : ∀ n, ((V.drop n).take k).length ≤ 9223372036854775807 := fun n => by rw [List.length_take]; omega
  have wa : ∀ j, atV V j % 65536 < 9223372036854775808 := fun j => by have := Int.emod_lt_of_pos (atV V j) (show (0:Int) < 65536 by decide); omega
  have wi : ∀ n, wI (takI V n k) := fun n => ⟨w _, ⟨w _, w _, w _⟩, wa _, wt _, lt _⟩
  exact ⟨w _, w _, w _, w _, wi _, wi _, ⟨w _, w _, w _⟩, ⟨w _, w _, w _⟩⟩
theorem shape_rk {G : Mk} {d : Int} (h : Fn Tryz.prog 19 [i d] [] (fun r _ => r = .tup [.agg [i G.v, i G.p, slF rw_ G.rows], .val .nilIface])) : Fn Tryz.prog 19 [i d] [] (fun r _ => r = .tup [.agg (rk (sysM G)), .val .nilIface]) := h
theorem holds_rk {G : Mk} {V : List Int} {e : AV} (h : Fn Tryz.prog 22 [.agg (rk (sysM G)), ul V] [] (fun r _ => r = e)) : Fn Tryz.prog 22 [.agg [i G.v, i G.p, slF rw_ G.rows], ul V] [] (fun r _ => r = e) := h
set_option maxHeartbeats 4000000 in
theorem obollaw18_CircuitValues_c {V : List Int} {d : Int} (hV : wV V) : Fn Tryz.prog 4 [ul V, i d] [] (fun r _ => r = bo true) := by
  by_cases h : 1 ≤ d ∧ d ≤ 4
  · obtain ⟨k, hn, hm, hd⟩ := mod17 d
    have hd16 : 1 ≤ d ∧ d ≤ 16 := ⟨h.1, by omega⟩
    have hdk := hd hd16
    have hf := shpM_f hn hd16 hdk
    have fr := frM.of (shpM_w hn) hf
    have mk := make_law fr
    have ml := makM_len fr
    have cS := circuit_Shape_y hn hm hf mk.1.rok
    obtain ⟨r1, r2, r3⟩ := rd_len hdk h.1 hn
    obtain ⟨gd1, gd2, gd5, ge1, ge2, ge3⟩ := rdZ_good hn
    have hl3 := make_len (gd_mk3 fr)
    have VL := fun (w : VG V) (hl : V.length = (makM (shpM k) d).vals.length) (s : Sat (makM (shpM k) d) V) (b4 : (rdZ5 k).vals.length + 3 ≤ V.length) => values_law hdk h.1 (by omega) w hl s r1 r2 r3 (by omega) ge2 ge3 b4
    rw [← r3] at hl3
    have mk1 := mk.1
    clear mk r1 r2 r3 fr hf
    generalize makM (shpM k) d = G at *
    have cSr := shape_rk cS
    have chk := mk1.chk (by omega) (by omega)
    have hv := mk1.v
    by_cases hl : V.length = G.vals.length
    · have cH := rank_Holds_c (s := sysM G) (V := V) (mk1.len (by omega)) mk1.wR hV (by omega)
      have hq : (holdsF (sysM G) V = nil_ ∧ VG V ∧ Sat G V) ∨ (holdsF (sysM G) V = er 1 ∨ ∃ j : Nat, holdsF (sysM G) V = spot j 8) := by
        unfold holdsF
        rw [if_pos chk]
        by_cases hb : (V.length : Int) ≠ (sysM G).v ∨ V.head? ≠ some 1 ∨ greatF V = true
        · rw [if_pos hb]; exact .inr (.inl rfl)
        · rw [if_neg hb]
          have hh : V.head? = some 1 := Classical.byContradiction fun e => hb (.inr (.inl e))
          have hg : ∀ v ∈ V, 0 ≤ v ∧ v < 288230376287764481 := by
            intro v hv
            refine ⟨(hV v hv).1, ?_⟩
            have hgr : greatF V = false := by
              cases hx : greatF V with
              | false => rfl
              | true => exact absurd (.inr (.inr hx)) hb
            unfold greatF at hgr
            rw [List.any_eq_false] at hgr
            have := hgr v hv
            simp at this; omega
          have ri := rowsH_iff V G.rows 0
          rcases ri.2 with e | e
          · exact .inl ⟨e, VG.of hh hg, ri.1.1 e⟩
          · exact .inr (.inr e)
      rcases hq with ⟨e, w, sat⟩ | he
      · rw [e] at cH
        have lV : V.length < 1000000 := by omega
        have h3 : (rdZ5 k).vals.length + 3 ≤ V.length := by omega
        obtain ⟨f1, f2, f3, f4, f5⟩ := VL w hl sat h3
        have cR := obollaw18_read_c (V := V) (k := k) (sp := G.p) (L := G.rows) hV lV hn h3
        rw [decide_eq_true f4, decide_eq_true f5, ← hdk] at cR
        have ev : G.v = (V.length : Int) := by rw [hl]; exact hv
        have cS2 : Fn Tryz.prog 19 [i d] [] (fun r _ => r = .tup [.agg [i V.length, i G.p, slF rw_ G.rows], .val .nilIface]) := by rw [← ev]; exact cS
        have cH2 : Fn Tryz.prog 22 [.agg [i V.length, i G.p, slF rw_ G.rows], ul V] [] (fun r _ => r = nil_) := by rw [← ev]; exact holds_rk cH
        have hw := rdM_w hV (k := k) (n1 := (rdZ1 k).vals.length) (n2 := (rdZ2 k).vals.length) (n3 := (rdZ5 k).vals.length) hn
        generalize (rdZ1 k).vals.length = n1 at *
        generalize (rdZ2 k).vals.length = n2 at *
        generalize (rdZ5 k).vals.length = n3 at *
        generalize rdM V k n1 n2 n3 = M at *
        have fm' := frM.of hw f1
        have hp : M.x.p.length < 1000000000 ∧ M.y.p.length < 1000000000 := ⟨by have := fm'.x.l2; omega, by have := fm'.y.l2; omega⟩
        exact CircuitValues_z h hV lV cS2 cH2 cR hw ⟨fm'.x.a.1, fm'.y.a.1⟩ hp f1 f2 f3 (by omega)
      · exact CircuitValues_o h cSr he cH
    · have cH := rank_Holds_long (s := sysM G) (V := V) (mk1.len (by omega)) chk (by rw [show (sysM G).v = (G.vals.length : Int) from hv]; omega)
      exact CircuitValues_o h cSr (.inl rfl) cH
  · exact CircuitValues_n h

end Go.Proofs.YtngphcdhdllnnaaGreat.E.M
end
section
/- What is handed in: numbers, a move. -/
set_option linter.unusedVariables false
set_option linter.unusedSimpArgs false
set_option maxRecDepth 10000
open Go Go.Proofs.YtngphcdhdllnnaaGreat.E Go.Proofs
namespace Go.Proofs.YtngphcdhdllnnaaGreat.E.M
theorem wf_w64q {a : Int} (h : (Lit.int .u64 a).wf = true) : w64 a := by
  simp [Lit.wf, IntKind.min, IntKind.max, IntKind.bits, IntKind.signed] at h
  exact ⟨h.1, by omega⟩
abbrev i64r (a : Int) : Prop := -9223372036854775808 ≤ a ∧ a < 9223372036854775808
theorem wf_i64q {a : Int} (h : (Lit.int .i64 a).wf = true) : i64r a := by
  simp [Lit.wf, IntKind.min, IntKind.max, IntKind.bits, IntKind.signed] at h
  exact ⟨h.1, by omega⟩
theorem open_intq {c : AV} (h : PV Tryz.prog 6 3 c) : ∃ n, c = i n ∧ i64r n := by
  obtain ⟨avs, ⟨n, hn, rfl⟩, hc⟩ := h
  have hc : [AV.val (.int .i64 n)] = [c] := hc
  simp only [List.cons.injEq, and_true] at hc
  exact ⟨n, hc.symm, wf_i64q hn⟩
theorem ta_u64s {k : Nat} : ∀ {es : List (List AV)}, (∀ x ∈ es, TA Tryz.prog (k + 1) 22 x) → ∃ L : List Int, L.length = es.length ∧ fm u1 L = es.flatten ∧ wV L
  | [], _ => ⟨[], rfl, rfl, by intro v hv; cases hv⟩
  | e :: es, h => by
    obtain ⟨g, hg, rfl⟩ := h e List.mem_cons_self
    obtain ⟨L, h1, h2, h3⟩ := ta_u64s fun x hx => h x (List.mem_cons_of_mem _ hx)
    refine ⟨g :: L, by simp [h1], by rw [List.flatten_cons, ← h2]; rfl, ?_⟩
    intro g' hg'
    rcases List.mem_cons.1 hg' with rfl | hg'
    · exact wf_w64q hg
    · exact h3 _ hg'
theorem open_u64s {c : AV} (h : PV Tryz.prog 6 25 c) : ∃ L : List Int, c = ul L ∧ L.length ≤ 9223372036854775807 ∧ wV L := by
  obtain ⟨avs, ⟨es, hl, rfl, he⟩, hc⟩ := h
  have hc : [AV.sl es.length es.flatten] = [c] := hc
  simp only [List.cons.injEq, and_true] at hc
  subst hc
  obtain ⟨L, h1, h2, h3⟩ := ta_u64s he
  exact ⟨L, by rw [show ul L = .sl L.length (fm u1 L) from rfl, h1, h2], by rw [h1]; exact hl, h3⟩
end Go.Proofs.YtngphcdhdllnnaaGreat.E.M
end
