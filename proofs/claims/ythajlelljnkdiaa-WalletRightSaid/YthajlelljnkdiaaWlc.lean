/- obollaw21.owned and may: contracts over E. -/
import Derived.Test.YthajlelljnkdiaaWlb
import Derived.Test.YthajlelljnkdiaaProg
import Derived.KernelRfl
set_option linter.unusedVariables false
set_option linter.unusedSimpArgs false
set_option maxRecDepth 10000
open Go Go.Proofs.Ythajlelljnkdiaa.E Go.Proofs
namespace Go.Proofs.Ythajlelljnkdiaa.E.M
def ownA (hide : Int) (e : Int) (h : Hd) : Bool := manyH [hide, h.1.2.2, h.2.1] == e
def ownB (hide : Int) (e own : Int) (p : Int) (n : Int × Int × Int) : Bool := (n.2.1 == own) && (manyH [hide, n.2.2, p] == e)
def ownH (L : List Hd) (m : Mv) (c : Nat) (own e : Int) : Bool := L.any (ownA (twoH m.x.k 1) e) || (ownB (twoH m.x.k 1) e own ((2 * c : Nat) : Int) m.p || ownB (twoH m.x.k 1) e own ((2 * c + 1 : Nat) : Int) m.q)
abbrev wHd (h : Hd) : Prop := wN h.1 ∧ 0 ≤ h.2.1 ∧ h.2.1 < 1000
theorem hd_at {L r : List Hd} {k : Nat} {t : Hd} (h : L.drop k = t :: r) : (fm hdc L).drop (k * 5) = hdc t ++ fm hdc r := fm_drop hdc_len h
set_option maxHeartbeats 8000000 in
theorem obollaw21_owned_c {L : List Hd} {m : Mv} {c : Nat} {own e : Int} (lL : L.length < 1000000) (hL : ∀ h ∈ L, wHd h) (hm : wM m) (hc : c < 1000) : Fn Try.prog 26 [slF hdc L, .agg (mvc m), i c, u own, u e] [] (fun r h_ => r = bo (ownH L m c own e)) := by
  refine Fn.enter Try.func26 Try.ntmps26 rfl (h := ?_)
  have tf := tfw
  have ot_ : (false || true) = true := rfl
  obtain ⟨mr, mi, mo, ms, ⟨xk, ⟨xv, xo, xr⟩, xa, xp⟩, ⟨yk, ⟨yv, yo, yr⟩, ya, yp⟩, ⟨pv, po, pr⟩, ⟨qv, qo, qr⟩⟩ := m
  obtain ⟨w1, w2, w3, w4, ⟨x1, ⟨x2, x3, x4⟩, x5, x6, x7⟩, ⟨y1, ⟨y2, y3, y4⟩, y5, y6, y7⟩, ⟨p1, p2, p3⟩, ⟨q1, q2, q3⟩⟩ := hm
  simp only at w1 w2 w3 w4 x1 x2 x3 x4 x5 x6 x7 y1 y2 y3 y4 y5 y6 y7 p1 p2 p3 q1 q2 q3
  show AW _ _ _ ⟨70, [(0, slF hdc L), (1, .agg [u mr, u mi, u mo, u ms, u xk, u xv, u xo, u xr, i xa, ul xp, u yk, u yv, u yo, u yr, i ya, ul yp, u pv, u po, u pr, u qv, u qo, u qr]), (2, i c), (3, u own), (4, u e)], []⟩
  have cT := obolref10_Two_c (a := xk) (b := 1) x1 (by decide)
  have wh : w64 (twoH xk 1) := (twoH_l _ _).w
  unfold ownH
  simp only
  generalize twoH xk 1 = hide at *
  have n0 : Int.toNat 0 = 0 := rfl
  have q0 : (0:Int) ≤ 0 := by decide
  have x02 : (0:Int) < ((2:Nat):Int) := by decide
  repeat refine AW.seq ?_
  refine AW.reg ?_
  iterate 2 refine AOL.s1 (h := ?_)
  refine AOL.nil ?_
  refine AW.kq [0, 2, 3, 4, 6] (h := ?_)
  repeat refine AW.seq ?_
  refine AW.reg ?_
  iterate 4 refine AOL.s1 (h := ?_)
  refine AOL.callD rfl (cT) (by kernel_rfl) rfl rfl (h := ?_)
  iterate 1 refine AOL.s1 (h := ?_)
  refine AOL.nil ?_
  refine AW.kq [0, 2, 3, 4, 6, 11] (h := ?_)
  repeat refine AW.seq ?_
  refine AW.reg ?_
  iterate 1 refine AOL.s1 (h := ?_)
  refine AOL.nil ?_
  refine AW.kq [0, 2, 3, 4, 6, 11, 12] (h := ?_)
  repeat refine AW.seq ?_
  refine AW.block ?_
  repeat refine AW.seq ?_
  refine AW.loopK [0, 2, 3, 4, 6, 11, 12] (fun n' s => ∃ (j : Nat) (r : List Hd), s = ⟨70, [(0, slF hdc L), (2, i c), (3, u own), (4, u e), (6, .ptr 1096 0), (11, u hide), (12, i j)], [(1096, ⟨42, true, [u mr, u mi, u mo, u ms, u xk, u xv, u xo, u xr, i xa, ul xp, u yk, u yv, u yo, u yr, i ya, ul yp, u pv, u po, u pr, u qv, u qo, u qr]⟩)]⟩ ∧ L.drop j = r ∧ j ≤ L.length ∧ n' = r.length ∧ ((L.take j).any (ownA hide e)) = false) (L.length) ?_ ?_
  · exact ⟨0, L, rfl, rfl, Nat.zero_le _, rfl, rfl⟩
  rintro n' s ⟨j, r, rfl, hr, hj, rfl, ha⟩
  repeat refine AW.seq ?_
  refine AW.reg ?_
  iterate 4 refine AOL.s1 (h := ?_)
  refine AOL.nil ?_
  refine AW.kq [0, 2, 3, 4, 6, 11, 12, 22] (h := ?_)
  repeat refine AW.seq ?_
  refine AW.cond rfl (fun c_ => ?_) (fun c_ => ?_)
  · have hj3 : j < L.length := by simp at c_; omega
    obtain ⟨t, r, rfl⟩ := ends_cons hr hj (by simpa using c_)
    have hd := dconsq hr
    have e4 : IntKind.i64.wrap ((j:Int) + 1) = ((j + 1 : Nat) : Int) := by rw [wrapI_o (by omega) (by omega)]; omega
    have ht := hd_at hr
    have j0 : (0:Int) ≤ (j:Nat) := by omega
    have l0 : (j:Int) < L.length := by omega
    obtain ⟨_, hr1, hg⟩ := hd
    have wt := hL t (List.mem_of_getElem? hg)
    have ap := any_app (ownA hide e) hr
    have am := fun h => any_mem (ownA hide e) hr h
    rw [ha, Bool.false_or] at ap
    obtain ⟨⟨tv, to, tr⟩, ta, ts⟩ := t
    obtain ⟨⟨_, _, wr⟩, g0, g1⟩ := wt
    simp only at wr g0 g1
    have e6 : IntKind.u64.wrap ta = ta := i64_o (by omega) (by omega)
    have cM := obolref10_Many_c (V := [hide, tr, ta]) (by intro x hx; simp only [List.mem_cons, List.not_mem_nil, or_false] at hx; rcases hx with rfl | rfl | rfl; exact wh; exact wr; exact ⟨by omega, by omega⟩) (by simp)
    have hA : ownA hide e ((tv, to, tr), ta, ts) = (manyH [hide, tr, ta] == e) := rfl
    rw [hA] at ap am
    clear c_ hr ha hg hA
    replace ap : id (_ = _) := ap
    replace am : id (_ → _) := am
    refine AW.skip ?_
    repeat refine AW.seq ?_
    refine AW.block ?_
    repeat refine AW.seq ?_
    refine AW.drw 16 [1608] (by kernel_rfl) (h := ?_)
    iterate 14 refine ADL.dm 1 (h := ?_)
    refine ADL.call rfl (cM) (by kernel_rfl) rfl rfl (h := ?_)
    iterate 1 refine ADL.dm 1 (h := ?_)
    refine ADL.done hmix rfl rfl (hT := ?_)
    iterate 1 refine AOL.s1 (h := ?_)
    refine AOL.nil ?_
    refine AW.kq [0, 2, 3, 4, 6, 11, 12, 41] (h := ?_)
    repeat refine AW.seq ?_
    refine AW.cond rfl (fun d_ => ?_) (fun d_ => ?_)
    · have hb : L.any (ownA hide e) = true := (show _ → _ from am) d_
      rw [hb, Bool.true_or]
      repeat refine AW.seq ?_
      refine AW.reg ?_
      iterate 1 refine AOL.s1 (h := ?_)
      refine AOL.nil ?_
      refine AW.kq [10] (h := ?_)
      repeat refine AW.seq ?_
      refine AW.ret ?_
      refine ⟨_, [], rfl, HOk.nil _, ?_⟩
      rfl
    clear am
    refine AW.skip ?_
    repeat refine AW.seq ?_
    refine AW.reg ?_
    iterate 3 refine AOL.s1 (h := ?_)
    refine AOL.nil ?_
    exact ⟨r.length, by simp only [List.length_cons]; omega, j + 1, r, rfl, hr1, hj3, rfl, by rw [show _ = _ from ap]; exact d_⟩
  · obtain rfl := ends_nil hr (by simpa using c_)
    have lj := dnilq hr hj
    rw [any_full _ (by omega)] at ha
    rw [ha, Bool.false_or]
    clear ha hr hj c_
    have e2 : IntKind.i64.wrap (2 * (c:Int)) = ((2 * c : Nat) : Int) := by rw [wrapI_o (by omega) (by omega)]; omega
    repeat refine AW.seq ?_
    refine AW.exit ?_
    repeat (first | refine Kseq.ex ?_ | refine Kloop.ex ?_ | refine Kblock.miss (by decide) ?_)
    refine Kblock.hit ?_
    refine AW.kq [2, 3, 4, 6, 11] (h := ?_)
    repeat refine AW.seq ?_
    refine AW.reg ?_
    iterate 1 refine AOL.s1 (h := ?_)
    refine AOL.nil ?_
    refine AW.kq [2, 3, 4, 6, 11, 13] (h := ?_)
    repeat refine AW.seq ?_
    refine AW.block ?_
    repeat refine AW.seq ?_
    refine AW.loopK [2, 3, 4, 6, 11, 13] (fun n' s => ∃ (b : Nat), s = ⟨70, [(2, i c), (3, u own), (4, u e), (6, .ptr 1096 0), (11, u hide), (13, i b)], [(1096, ⟨42, true, [u mr, u mi, u mo, u ms, u xk, u xv, u xo, u xr, i xa, ul xp, u yk, u yv, u yo, u yr, i ya, ul yp, u pv, u po, u pr, u qv, u qo, u qr]⟩)]⟩ ∧ b + n' = 2 ∧ (b ≠ 0 → ownB hide e own ((2 * c : Nat) : Int) (pv, po, pr) = false) ∧ (b = 2 → ownB hide e own ((2 * c + 1 : Nat) : Int) (qv, qo, qr) = false)) (2) ?_ ?_
    · exact ⟨0, rfl, rfl, fun h => absurd rfl h, fun h => by omega⟩
    rintro n' s ⟨b, rfl, hb, h0, h1⟩
    repeat refine AW.seq ?_
    refine AW.reg ?_
    iterate 2 refine AOL.s1 (h := ?_)
    refine AOL.nil ?_
    refine AW.kq [2, 3, 4, 6, 11, 13, 43] (h := ?_)
    repeat refine AW.seq ?_
    refine AW.cond rfl (fun d_ => ?_) (fun d_ => ?_)
    · have b1 : b < 2 := by simp at d_; omega
      obtain ⟨n, rfl⟩ : ∃ m, n' = m + 1 := ⟨n' - 1, by omega⟩
      have k2 : IntKind.i64.wrap ((b : Int) + 1) = ((b + 1 : Nat) : Int) := by rw [wrapI_o (by omega) (by omega)]; omega
      have b0 : (0:Int) ≤ (b:Nat) := by omega
      have b2 : (b:Int) < ((2:Nat):Int) := by omega
      have e5 : IntKind.i64.wrap (((2 * c : Nat) : Int) + (b:Int)) = ((2 * c + b : Nat) : Int) := by rw [wrapI_o (by omega) (by omega)]; omega
      have e6 : IntKind.u64.wrap ((2 * c + b : Nat) : Int) = ((2 * c + b : Nat) : Int) := i64_o (by omega) (by omega)
      have wp : w64 ((2 * c + b : Nat) : Int) := ⟨by omega, by omega⟩
      obtain ⟨nn, z1, z2, hs1, hs2, ws, hT, hF⟩ : ∃ (nn : Int × Int × Int) (z1 z2 : List AV), List.drop (16 + b * 3 + 1) [u mr, u mi, u mo, u ms, u xk, u xv, u xo, u xr, i xa, ul xp, u yk, u yv, u yo, u yr, i ya, ul yp, u pv, u po, u pr, u qv, u qo, u qr] = u nn.2.1 :: z1 ∧ List.drop (16 + b * 3 + 2) [u mr, u mi, u mo, u ms, u xk, u xv, u xo, u xr, i xa, ul xp, u yk, u yv, u yo, u yr, i ya, ul yp, u pv, u po, u pr, u qv, u qo, u qr] = u nn.2.2 :: z2 ∧ w64 nn.2.2 ∧ (ownB hide e own ((2 * c + b : Nat) : Int) nn = true → (ownB hide e own ((2 * c : Nat) : Int) (pv, po, pr) || ownB hide e own ((2 * c + 1 : Nat) : Int) (qv, qo, qr)) = true) ∧ (ownB hide e own ((2 * c + b : Nat) : Int) nn = false → (b + 1 ≠ 0 → ownB hide e own ((2 * c : Nat) : Int) (pv, po, pr) = false) ∧ (b + 1 = 2 → ownB hide e own ((2 * c + 1 : Nat) : Int) (qv, qo, qr) = false)) := by
        have : b = 0 ∨ b = 1 := by omega
        rcases this with rfl | rfl
        · exact ⟨(pv, po, pr), _, _, rfl, rfl, p3, fun h => by rw [show ownB hide e own ((2 * c : Nat) : Int) (pv, po, pr) = true from h]; rfl, fun h => ⟨fun _ => h, fun h => by omega⟩⟩
        · exact ⟨(qv, qo, qr), _, _, rfl, rfl, q3, fun h => by rw [show ownB hide e own ((2 * c + 1 : Nat) : Int) (qv, qo, qr) = true from h, Bool.or_true], fun h => ⟨fun _ => h0 (by decide), fun _ => h⟩⟩
      obtain ⟨nv, no, nr⟩ := nn
      simp only at ws hs1 hs2
      have cM := obolref10_Many_c (V := [hide, nr, ((2 * c + b : Nat) : Int)]) (by intro x hx; simp only [List.mem_cons, List.not_mem_nil, or_false] at hx; rcases hx with rfl | rfl | rfl; exact wh; exact ws; exact wp) (by simp)
      have hB : ownB hide e own ((2 * c + b : Nat) : Int) (nv, no, nr) = ((no == own) && (manyH [hide, nr, ((2 * c + b : Nat) : Int)] == e)) := rfl
      rw [hB] at hT hF
      clear d_ h0 h1 hB
      replace hT : id (_ → _) := hT
      replace hF : id (_ → _) := hF
      refine AW.skip ?_
      repeat refine AW.seq ?_
      refine AW.block ?_
      repeat refine AW.seq ?_
      refine AW.reg ?_
      iterate 8 refine AOL.s1 (h := ?_)
      refine AOL.kq [2, 3, 4, 6, 11, 13, 53] (h := ?_)
      refine AOL.and 53 69 (os' := ?_) (x := ?_) (h1 := ?_) (h0 := ?_) (h := ?_)
      rotate_left 2
      iterate 2
        · intro hb_ K' hK; (first | (iterate 16 refine AOL.s1 (h := ?_)) | ((iterate 12 refine AOL.s1 (h := ?_)); refine AOL.fz 2040 rfl (fun _ => rfl) (h := ?_); refine AOL.callD rfl cM (by kernel_rfl) rfl rfl (h := ?_); (iterate 3 refine AOL.s1 (h := ?_)))); refine AOL.kq [2, 3, 4, 6, 11, 13, 69] (h := ?_); exact hK
      refine AOL.nil ?_
      refine AW.kq [2, 3, 4, 6, 11, 13, 69] (h := ?_)
      repeat refine AW.seq ?_
      refine AW.cond rfl (fun d_ => ?_) (fun d_ => ?_)
      · have hb := (show _ → _ from hT) d_
        rw [hb]
        repeat refine AW.seq ?_
        refine AW.reg ?_
        iterate 1 refine AOL.s1 (h := ?_)
        refine AOL.nil ?_
        refine AW.kq [10] (h := ?_)
        repeat refine AW.seq ?_
        refine AW.ret ?_
        refine ⟨_, [], rfl, HOk.nil _, ?_⟩
        rfl
      have hb := (show _ → _ from hF) d_
      refine AW.skip ?_
      repeat refine AW.seq ?_
      refine AW.reg ?_
      iterate 3 refine AOL.s1 (h := ?_)
      refine AOL.nil ?_
      exact ⟨n, by omega, b + 1, rfl, by omega, hb.1, hb.2⟩
    · obtain rfl : b = 2 := by simp at d_; omega
      rw [h0 (by decide), h1 rfl]
      repeat refine AW.seq ?_
      refine AW.exit ?_
      repeat (first | refine Kseq.ex ?_ | refine Kloop.ex ?_ | refine Kblock.miss (by decide) ?_)
      refine Kblock.hit ?_
      refine AW.kq [] (h := ?_)
      repeat refine AW.seq ?_
      refine AW.reg ?_
      iterate 1 refine AOL.s1 (h := ?_)
      refine AOL.nil ?_
      refine AW.kq [10] (h := ?_)
      repeat refine AW.seq ?_
      refine AW.ret ?_
      refine ⟨_, [], rfl, HOk.nil _, ?_⟩
      rfl
structure Ws where
  k : Int
  inn : Int
  fr : Int
  sq : Int
  ou : Int
  to : Int × Int
  pay : Int
  ao : Int
  ap : Int × Int
  d0 : Int
  d1 : Int
  d2 : Int
  d3 : Int
  d4 : Int
  d5 : Int
  d6 : Int
  d7 : Int
abbrev wsc (w : Ws) : List AV := [u w.k, u w.inn, u w.fr, u w.sq, u w.ou, u w.to.1, u w.to.2, u w.pay, u w.ao, u w.ap.1, u w.ap.2, u w.d0, u w.d1, u w.d2, u w.d3, u w.d4, u w.d5, u w.d6, u w.d7]
abbrev wWs (w : Ws) : Prop := w64 w.k ∧ w64 w.inn ∧ w64 w.fr ∧ w64 w.sq ∧ w64 w.ou ∧ wE w.to ∧ w64 w.pay ∧ w64 w.ao ∧ wE w.ap ∧ w64 w.d0 ∧ w64 w.d1 ∧ w64 w.d2 ∧ w64 w.d3 ∧ w64 w.d4 ∧ w64 w.d5 ∧ w64 w.d6 ∧ w64 w.d7
def big1 (w : Ws) : Bool := !keyH w.k || decide (w.inn ≥ 4294967296) || decide (w.ou ≥ 4294967296) || decide (w.pay ≥ 4294967296) || decide (w.sq > 1125899906842624)
def big2 (w : Ws) : Bool := decide (w.fr ≥ 72057593894066549) || (!((w.fr == 0) == (w.inn == 0))) || !inEd w.to || (!((w.to.1 == 0 && w.to.2 == 1) == (w.ou == 0)))
def big3 (w : Ws) : Bool := [w.d0, w.d1, w.d2, w.d3, w.d4, w.d5, w.d6, w.d7].any fun d => decide (d ≥ 72057593894066549)
def fine4 (w : Ws) : Bool := decide (w.ao < 288230376287764481) && ptH w.ap && (w.d2 != 0) && (w.d3 != 0) && (w.d7 != 0)
def mayW (w : Ws) : Bool := !big1 w && (!big2 w && (!big3 w && fine4 w))
set_option maxHeartbeats 1000000 in
theorem obolref19_Zero_c : Fn Try.prog 15 [] [] (fun r h_ => r = ed (0, 1)) := by
  refine Fn.enter Try.func15 Try.ntmps15 rfl (h := ?_)
  have tf := tfw
  have ot_ : (false || true) = true := rfl
  repeat refine AW.seq ?_
  refine AW.reg ?_
  iterate 1 refine AOL.s1 (h := ?_)
  refine AOL.nil ?_
  refine AW.kq [0] (h := ?_)
  repeat refine AW.seq ?_
  refine AW.reg ?_
  iterate 2 refine AOL.s1 (h := ?_)
  refine AOL.nil ?_
  refine AW.kq [0] (h := ?_)
  repeat refine AW.seq ?_
  refine AW.ret ?_
  refine ⟨_, [], rfl, HOk.nil _, ?_⟩
  rfl
set_option maxHeartbeats 16000000 in
theorem obollaw21_may_c {w : Ws} (hw : wWs w) : Fn Try.prog 6 [.agg (wsc w)] [] (fun r h_ => r = bo (mayW w)) := by
  refine Fn.enter Try.func6 Try.ntmps6 rfl (h := ?_)
  have tf := tfw
  have ot_ : (false || true) = true := rfl
  obtain ⟨k, inn, fr, sq, ou, ⟨tx, ty⟩, pay, ao, ⟨px, py⟩, d0, d1, d2, d3, d4, d5, d6, d7⟩ := w
  obtain ⟨w1, w2, w3, w4, w5, w6, w7, w8, w9, w10⟩ := hw
  simp only at w1 w2 w3 w4 w5 w6 w7 w8 w9 w10
  show AW _ _ _ ⟨93, [(0, .agg [u k, u inn, u fr, u sq, u ou, u tx, u ty, u pay, u ao, u px, u py, u d0, u d1, u d2, u d3, u d4, u d5, u d6, u d7])], []⟩
  have cK := obolref17_Key_c w1
  have cI := obolref07_In_c (p := (tx, ty)) w6
  have cZ := obolref19_Zero_c
  have eqE := eqEd
  have cP := obolref17_Point_c (p := (px, py)) w9
  unfold mayW big1 big2 big3 fine4
  simp only
  repeat refine AW.seq ?_
  refine AW.reg ?_
  iterate 2 refine AOL.s1 (h := ?_)
  refine AOL.nil ?_
  refine AW.kq [1] (h := ?_)
  repeat refine AW.seq ?_
  refine AW.reg ?_
  iterate 2 refine AOL.s1 (h := ?_)
  refine AOL.callD rfl (cK) (by kernel_rfl) rfl rfl (h := ?_)
  iterate 2 refine AOL.s1 (h := ?_)
  refine AOL.kq [1, 8] (h := ?_)
  refine AOL.or 8 12 (os' := ?_) (x := ?_) (h1 := ?_) (h0 := ?_) (h := ?_)
  rotate_left 2
  iterate 2
    · intro hb_ K' hK; (iterate 4 refine AOL.s1 (h := ?_)); refine AOL.kq [1, 12] (h := ?_); exact hK
  iterate 1 refine AOL.s1 (h := ?_)
  refine AOL.kq [1, 13] (h := ?_)
  refine AOL.or 13 17 (os' := ?_) (x := ?_) (h1 := ?_) (h0 := ?_) (h := ?_)
  rotate_left 2
  iterate 2
    · intro hb_ K' hK; (iterate 4 refine AOL.s1 (h := ?_)); refine AOL.kq [1, 17] (h := ?_); exact hK
  iterate 1 refine AOL.s1 (h := ?_)
  refine AOL.kq [1, 18] (h := ?_)
  refine AOL.or 18 22 (os' := ?_) (x := ?_) (h1 := ?_) (h0 := ?_) (h := ?_)
  rotate_left 2
  iterate 2
    · intro hb_ K' hK; (iterate 4 refine AOL.s1 (h := ?_)); refine AOL.kq [1, 22] (h := ?_); exact hK
  iterate 1 refine AOL.s1 (h := ?_)
  refine AOL.kq [1, 23] (h := ?_)
  refine AOL.or 23 27 (os' := ?_) (x := ?_) (h1 := ?_) (h0 := ?_) (h := ?_)
  rotate_left 2
  iterate 2
    · intro hb_ K' hK; (iterate 4 refine AOL.s1 (h := ?_)); refine AOL.kq [1, 27] (h := ?_); exact hK
  refine AOL.nil ?_
  refine AW.kq [1, 27] (h := ?_)
  repeat refine AW.seq ?_
  refine AW.cond rfl (fun c_ => ?_) (fun c_ => ?_)
  · rw [c_]
    repeat refine AW.seq ?_
    refine AW.reg ?_
    iterate 1 refine AOL.s1 (h := ?_)
    refine AOL.nil ?_
    refine AW.kq [2] (h := ?_)
    repeat refine AW.seq ?_
    refine AW.ret ?_
    refine ⟨_, [], rfl, HOk.nil _, ?_⟩
    rfl
  rw [c_]
  clear c_
  refine AW.skip ?_
  repeat refine AW.seq ?_
  refine AW.midK [1, 55] (fun t => ∃ b : Bool, t = ⟨93, [(1, .ptr 1016 0), (55, bo b)], [(1016, ⟨30, true, [u k, u inn, u fr, u sq, u ou, u tx, u ty, u pay, u ao, u px, u py, u d0, u d1, u d2, u d3, u d4, u d5, u d6, u d7]⟩)]⟩ ∧ b = (decide (fr ≥ 72057593894066549) || (!((fr == 0) == (inn == 0))) || !inEd (tx, ty) || (!((tx == 0 && ty == 1) == (ou == 0))))) ?_ ?_
  · cases g1 : decide (fr ≥ 72057593894066549) with
    | true =>
      refine AW.drw 26 [] (by kernel_rfl) (h := ?_)
      iterate 26 refine ADL.dm 1 (h := ?_)
      refine ADL.done hmix rfl rfl (hT := ?_)
      iterate 2 refine AOL.s1 (h := ?_)
      refine AOL.nil ?_
      exact ⟨_, rfl, by rfl⟩
    | false =>
      cases g2 : ((fr == 0) == (inn == 0)) with
      | false =>
        refine AW.drw 26 [] (by kernel_rfl) (h := ?_)
        iterate 26 refine ADL.dm 1 (h := ?_)
        refine ADL.done hmix rfl rfl (hT := ?_)
        iterate 2 refine AOL.s1 (h := ?_)
        refine AOL.nil ?_
        exact ⟨_, rfl, by rfl⟩
      | true =>
        cases g3 : inEd (tx, ty) with
        | false =>
          rw [g3] at cI
          refine AW.drw 26 [] (by kernel_rfl) (h := ?_)
          iterate 15 refine ADL.dm 1 (h := ?_)
          refine ADL.call rfl (cI) (by kernel_rfl) rfl rfl (h := ?_)
          iterate 10 refine ADL.dm 1 (h := ?_)
          refine ADL.done hmix rfl rfl (hT := ?_)
          iterate 2 refine AOL.s1 (h := ?_)
          refine AOL.nil ?_
          exact ⟨_, rfl, by rfl⟩
        | true =>
          rw [g3] at cI
          refine AW.drw 26 [] (by kernel_rfl) (h := ?_)
          iterate 15 refine ADL.dm 1 (h := ?_)
          refine ADL.call rfl (cI) (by kernel_rfl) rfl rfl (h := ?_)
          iterate 5 refine ADL.dm 1 (h := ?_)
          refine ADL.call rfl (cZ) (by kernel_rfl) rfl rfl (h := ?_)
          iterate 4 refine ADL.dm 1 (h := ?_)
          refine ADL.done hmix rfl rfl (hT := ?_)
          iterate 2 refine AOL.s1 (h := ?_)
          refine AOL.nil ?_
          exact ⟨_, rfl, by rfl⟩
  rintro t ⟨b_, rfl, hb_⟩
  rw [← hb_]
  skip
  skip
  skip
  skip
  skip
  skip
  skip
  skip
  repeat refine AW.seq ?_
  skip
  repeat refine AW.seq ?_
  refine AW.cond rfl (fun c_ => ?_) (fun c_ => ?_)
  · subst c_
    clear hb_
    repeat refine AW.seq ?_
    refine AW.reg ?_
    iterate 1 refine AOL.s1 (h := ?_)
    refine AOL.nil ?_
    refine AW.kq [2] (h := ?_)
    repeat refine AW.seq ?_
    refine AW.ret ?_
    refine ⟨_, [], rfl, HOk.nil _, ?_⟩
    rfl
  subst c_
  clear hb_
  rw [show (!false) = true from rfl, Bool.true_and, Bool.true_and]
  refine AW.skip ?_
  repeat refine AW.seq ?_
  refine AW.reg ?_
  iterate 1 refine AOL.s1 (h := ?_)
  refine AOL.nil ?_
  refine AW.kq [1, 3] (h := ?_)
  repeat refine AW.seq ?_
  refine AW.block ?_
  repeat refine AW.seq ?_
  refine AW.loopK [1, 3] (fun n' s => ∃ (b : Nat), s = ⟨93, [(1, .ptr 1016 0), (3, i b)], [(1016, ⟨30, true, [u k, u inn, u fr, u sq, u ou, u tx, u ty, u pay, u ao, u px, u py, u d0, u d1, u d2, u d3, u d4, u d5, u d6, u d7]⟩)]⟩ ∧ b + n' = 8 ∧ (([d0, d1, d2, d3, d4, d5, d6, d7].take b).any fun d => decide (d ≥ 72057593894066549)) = false) (8) ?_ ?_
  · exact ⟨0, rfl, rfl, rfl⟩
  rintro n' s ⟨b, rfl, hb, ha⟩
  repeat refine AW.seq ?_
  refine AW.reg ?_
  iterate 2 refine AOL.s1 (h := ?_)
  refine AOL.nil ?_
  refine AW.kq [1, 3, 57] (h := ?_)
  repeat refine AW.seq ?_
  refine AW.cond rfl (fun c_ => ?_) (fun c_ => ?_)
  · have b1 : b < 8 := by simp at c_; omega
    obtain ⟨n, rfl⟩ : ∃ m, n' = m + 1 := ⟨n' - 1, by omega⟩
    have k2 : IntKind.i64.wrap ((b : Int) + 1) = ((b + 1 : Nat) : Int) := by rw [wrapI_o (by omega) (by omega)]; omega
    have b0 : (0:Int) ≤ (b:Nat) := by omega
    have b2 : (b:Int) < ((8:Nat):Int) := by omega
    obtain ⟨dd, z, hd, hg⟩ : ∃ (dd : Int) (z : List AV), List.drop (11 + b) [u k, u inn, u fr, u sq, u ou, u tx, u ty, u pay, u ao, u px, u py, u d0, u d1, u d2, u d3, u d4, u d5, u d6, u d7] = u dd :: z ∧ [d0, d1, d2, d3, d4, d5, d6, d7].drop b = dd :: [d0, d1, d2, d3, d4, d5, d6, d7].drop (b + 1) := by
      have : b = 0 ∨ b = 1 ∨ b = 2 ∨ b = 3 ∨ b = 4 ∨ b = 5 ∨ b = 6 ∨ b = 7 := by omega
      rcases this with rfl | rfl | rfl | rfl | rfl | rfl | rfl | rfl <;> exact ⟨_, _, rfl, rfl⟩
    have ap := any_app (fun d : Int => decide (d ≥ 72057593894066549)) hg
    have am := fun h => any_mem (fun d : Int => decide (d ≥ 72057593894066549)) hg h
    rw [ha, Bool.false_or] at ap
    clear c_ ha hg
    replace ap : id (_ = _) := ap
    replace am : id (_ → _) := am
    refine AW.skip ?_
    repeat refine AW.seq ?_
    refine AW.block ?_
    repeat refine AW.seq ?_
    refine AW.reg ?_
    iterate 5 refine AOL.s1 (h := ?_)
    refine AOL.nil ?_
    refine AW.kq [1, 3, 64] (h := ?_)
    repeat refine AW.seq ?_
    refine AW.cond rfl (fun d_ => ?_) (fun d_ => ?_)
    · rw [(show _ → _ from am) d_]
      repeat refine AW.seq ?_
      refine AW.reg ?_
      iterate 1 refine AOL.s1 (h := ?_)
      refine AOL.nil ?_
      refine AW.kq [2] (h := ?_)
      repeat refine AW.seq ?_
      refine AW.ret ?_
      refine ⟨_, [], rfl, HOk.nil _, ?_⟩
      rfl
    refine AW.skip ?_
    repeat refine AW.seq ?_
    refine AW.reg ?_
    iterate 3 refine AOL.s1 (h := ?_)
    refine AOL.nil ?_
    exact ⟨n, by omega, b + 1, rfl, by omega, by rw [show _ = _ from ap]; exact d_⟩
  · obtain rfl : b = 8 := by simp at c_; omega
    rw [any_full _ (by simp)] at ha
    rw [ha, show (!false) = true from rfl, Bool.true_and]
    clear c_ ha
    have n2 : Int.toNat 2 = 2 := rfl
    have n3 : Int.toNat 3 = 3 := rfl
    have n7 : Int.toNat 7 = 7 := rfl
    have q2 : (0:Int) ≤ 2 := by decide
    have q3 : (0:Int) ≤ 3 := by decide
    have q7 : (0:Int) ≤ 7 := by decide
    have x2 : (2:Int) < ((8:Nat):Int) := by decide
    have x3 : (3:Int) < ((8:Nat):Int) := by decide
    have x7 : (7:Int) < ((8:Nat):Int) := by decide
    repeat refine AW.seq ?_
    refine AW.exit ?_
    repeat (first | refine Kseq.ex ?_ | refine Kloop.ex ?_ | refine Kblock.miss (by decide) ?_)
    refine Kblock.hit ?_
    refine AW.kq [1] (h := ?_)
    repeat refine AW.seq ?_
    refine AW.reg ?_
    iterate 5 refine AOL.s1 (h := ?_)
    refine AOL.kq [1, 69] (h := ?_)
    refine AOL.and 69 74 (os' := ?_) (x := ?_) (h1 := ?_) (h0 := ?_) (h := ?_)
    rotate_left 2
    iterate 2
      · intro hb_ K' hK; (first | (iterate 5 refine AOL.s1 (h := ?_)) | ((iterate 3 refine AOL.s1 (h := ?_)); refine AOL.callD rfl (cP) (by kernel_rfl) rfl rfl (h := ?_); (iterate 1 refine AOL.s1 (h := ?_)))); refine AOL.kq [1, 74] (h := ?_); exact hK
    iterate 1 refine AOL.s1 (h := ?_)
    refine AOL.kq [1, 75] (h := ?_)
    refine AOL.and 75 80 (os' := ?_) (x := ?_) (h1 := ?_) (h0 := ?_) (h := ?_)
    rotate_left 2
    iterate 2
      · intro hb_ K' hK; (iterate 5 refine AOL.s1 (h := ?_)); refine AOL.kq [1, 80] (h := ?_); exact hK
    iterate 1 refine AOL.s1 (h := ?_)
    refine AOL.kq [1, 81] (h := ?_)
    refine AOL.and 81 86 (os' := ?_) (x := ?_) (h1 := ?_) (h0 := ?_) (h := ?_)
    rotate_left 2
    iterate 2
      · intro hb_ K' hK; (iterate 5 refine AOL.s1 (h := ?_)); refine AOL.kq [1, 86] (h := ?_); exact hK
    iterate 1 refine AOL.s1 (h := ?_)
    refine AOL.kq [1, 87] (h := ?_)
    refine AOL.and 87 92 (os' := ?_) (x := ?_) (h1 := ?_) (h0 := ?_) (h := ?_)
    rotate_left 2
    iterate 2
      · intro hb_ K' hK; (iterate 5 refine AOL.s1 (h := ?_)); refine AOL.kq [1, 92] (h := ?_); exact hK
    iterate 1 refine AOL.s1 (h := ?_)
    refine AOL.nil ?_
    refine AW.kq [2] (h := ?_)
    repeat refine AW.seq ?_
    refine AW.ret ?_
    refine ⟨_, [], rfl, HOk.nil _, ?_⟩
    rfl
end Go.Proofs.Ythajlelljnkdiaa.E.M

