/- obolref18.Fits: whether a move fits a depth: a contract over E. -/
import Derived.Test.YthajlelljnkdiaaRgt
import Derived.Test.YthajlelljnkdiaaProg
import Derived.KernelRfl
set_option linter.unusedVariables false
set_option linter.unusedSimpArgs false
set_option maxRecDepth 10000
open Go Go.Proofs.Ythajlelljnkdiaa.E Go.Proofs
namespace Go.Proofs.Ythajlelljnkdiaa.E.M
def bw (n : Int) : Bool := decide (n < 288230376287764481)
def hdF (d r i o s : Int) : Bool := decide (1 ≤ d ∧ d ≤ 16) && bw r && bw i && bw o && bw s
def inF (x : Ip) (d : Int) : Bool := decide ((x.p.length : Int) = d) && decide (0 ≤ x.a) && decide (x.a < 2 ^ d.toNat) && bw x.k && bw x.n.1 && bw x.n.2.1 && bw x.n.2.2
def outF (n : Int × Int × Int) : Bool := bw n.1 && bw n.2.1 && bw n.2.2
def fitsH (m : Mv) (d : Int) : Bool := hdF d m.r m.i m.o m.s && (inF m.x d && m.x.p.all bw && outF m.p) && (inF m.y d && m.y.p.all bw && outF m.q)
set_option maxHeartbeats 16000000 in
theorem obolref18_Fits_c {m : Mv} {d : Int} (hm : wM m) : Fn Try.prog 8 [.agg (mvc m), i d] [] (fun r _ => r = bo (fitsH m d)) := by
  obtain ⟨mr, mi, mo, ms, ⟨xk, ⟨xv, xo, xr⟩, xa, xp⟩, ⟨yk, ⟨yv, yo, yr⟩, ya, yp⟩, ⟨pv, po, pr⟩, ⟨qv, qo, qr⟩⟩ := m
  obtain ⟨w1, w2, w3, w4, ⟨x1, ⟨x2, x3, x4⟩, x5, x6, x7⟩, ⟨y1, ⟨y2, y3, y4⟩, y5, y6, y7⟩, ⟨p1, p2, p3⟩, ⟨q1, q2, q3⟩⟩ := hm
  simp only at w1 w2 w3 w4 x1 x2 x3 x4 x5 x6 x7 y1 y2 y3 y4 y5 y6 y7 p1 p2 p3 q1 q2 q3
  unfold fitsH
  simp only
  have n0 : Int.toNat 0 = 0 := rfl
  have n1 : Int.toNat 1 = 1 := rfl
  have q0 : (0:Int) ≤ 0 := by decide
  have q1' : (0:Int) ≤ 1 := by decide
  have x02 : (0:Int) < ((2:Nat):Int) := by decide
  have x12 : (1:Int) < ((2:Nat):Int) := by decide
  have a1 : IntKind.i64.wrap (0 + 1) = 1 := by decide
  have a2 : IntKind.i64.wrap (1 + 1) = 2 := by decide
  have i02 : decide ((0:Int) < 2) = true := rfl
  have i12 : decide ((1:Int) < 2) = true := rfl
  have i22 : decide ((2:Int) < 2) = false := rfl
  show Fn Try.prog 8 [.agg [u mr, u mi, u mo, u ms, u xk, u xv, u xo, u xr, i xa, ul xp, u yk, u yv, u yo, u yr, i ya, ul yp, u pv, u po, u pr, u qv, u qo, u qr], i d] [] _
  refine Fn.enter Try.func8 Try.ntmps8 rfl (h := ?_)
  have tf := tfm
  have ot_ : (false || true) = true := rfl
  repeat refine AW.seq ?_
  refine AW.reg ?_
  iterate 2 refine AOL.s1 (h := ?_)
  refine AOL.nil ?_
  refine AW.kq [1, 2] (h := ?_)
  repeat refine AW.seq ?_
  refine AW.reg ?_
  iterate 3 refine AOL.s1 (h := ?_)
  refine AOL.kq [1, 2, 12] (h := ?_)
  refine AOL.or 12 15 (os' := ?_) (x := ?_) (h1 := ?_) (h0 := ?_) (h := ?_)
  rotate_left 2
  iterate 2
    · intro hb_ K' hK; (iterate 3 refine AOL.s1 (h := ?_)); refine AOL.kq [1, 2, 15] (h := ?_); exact hK
  iterate 1 refine AOL.s1 (h := ?_)
  refine AOL.kq [1, 2, 16] (h := ?_)
  refine AOL.or 16 21 (os' := ?_) (x := ?_) (h1 := ?_) (h0 := ?_) (h := ?_)
  rotate_left 2
  iterate 2
    · intro hb_ K' hK; (first | (iterate 5 refine AOL.s1 (h := ?_)) | ((iterate 2 refine AOL.s1 (h := ?_)); refine AOL.callD rfl (obolref18_below_c w1) (by kernel_rfl) rfl rfl (h := ?_); (iterate 2 refine AOL.s1 (h := ?_)))); refine AOL.kq [1, 2, 21] (h := ?_); exact hK
  iterate 1 refine AOL.s1 (h := ?_)
  refine AOL.kq [1, 2, 22] (h := ?_)
  refine AOL.or 22 27 (os' := ?_) (x := ?_) (h1 := ?_) (h0 := ?_) (h := ?_)
  rotate_left 2
  iterate 2
    · intro hb_ K' hK; (first | (iterate 5 refine AOL.s1 (h := ?_)) | ((iterate 2 refine AOL.s1 (h := ?_)); refine AOL.callD rfl (obolref18_below_c w2) (by kernel_rfl) rfl rfl (h := ?_); (iterate 2 refine AOL.s1 (h := ?_)))); refine AOL.kq [1, 2, 27] (h := ?_); exact hK
  iterate 1 refine AOL.s1 (h := ?_)
  refine AOL.kq [1, 2, 28] (h := ?_)
  refine AOL.or 28 33 (os' := ?_) (x := ?_) (h1 := ?_) (h0 := ?_) (h := ?_)
  rotate_left 2
  iterate 2
    · intro hb_ K' hK; (first | (iterate 5 refine AOL.s1 (h := ?_)) | ((iterate 2 refine AOL.s1 (h := ?_)); refine AOL.callD rfl (obolref18_below_c w3) (by kernel_rfl) rfl rfl (h := ?_); (iterate 2 refine AOL.s1 (h := ?_)))); refine AOL.kq [1, 2, 33] (h := ?_); exact hK
  iterate 1 refine AOL.s1 (h := ?_)
  refine AOL.kq [1, 2, 34] (h := ?_)
  refine AOL.or 34 39 (os' := ?_) (x := ?_) (h1 := ?_) (h0 := ?_) (h := ?_)
  rotate_left 2
  iterate 2
    · intro hb_ K' hK; (first | (iterate 5 refine AOL.s1 (h := ?_)) | ((iterate 2 refine AOL.s1 (h := ?_)); refine AOL.callD rfl (obolref18_below_c w4) (by kernel_rfl) rfl rfl (h := ?_); (iterate 2 refine AOL.s1 (h := ?_)))); refine AOL.kq [1, 2, 39] (h := ?_); exact hK
  refine AOL.nil ?_
  refine AW.kq [1, 2, 39] (h := ?_)
  repeat refine AW.seq ?_
  refine AW.cond rfl (fun c0 => ?_) (fun c0 => ?_)
  · have e : hdF d mr mi mo ms = false := Bool.eq_false_iff.2 (by intro h; simp [hdF, bw] at h; simp at c0; omega)
    rw [e]
    repeat refine AW.seq ?_
    refine AW.reg ?_
    iterate 1 refine AOL.s1 (h := ?_)
    refine AOL.nil ?_
    refine AW.kq [4] (h := ?_)
    repeat refine AW.seq ?_
    refine AW.ret ?_
    refine ⟨_, [], rfl, HOk.nil _, ?_⟩
    rfl
  have e0 : hdF d mr mi mo ms = true := by simp [hdF, bw]; simp at c0; omega
  rw [e0]
  obtain ⟨dn, rfl⟩ : ∃ n : Nat, d = n := ⟨d.toNat, by simp at c0; omega⟩
  have hd1 : 1 ≤ dn ∧ dn ≤ 16 := by simp at c0; omega
  clear c0 e0
  have s1 := shl_k (k := 1) (l := dn) (by omega) (by
    have : 2 ^ dn ≤ 2 ^ 16 := Nat.pow_le_pow_right (by decide) (by omega)
    omega)
  have s2 : ((1:Nat):Int) = 1 := rfl
  rw [s2] at s1
  have s0 : ¬ (dn:Int) < 0 := by omega
  have s3 : ((1 * 2 ^ dn : Nat) : Int) = 2 ^ dn := by rw [Nat.one_mul]; simp
  rw [s3] at s1
  clear s2 s3
  refine AW.skip ?_
  repeat refine AW.seq ?_
  refine AW.reg ?_
  iterate 1 refine AOL.s1 (h := ?_)
  refine AOL.nil ?_
  refine AW.kq [1, 2, 5] (h := ?_)
  repeat refine AW.seq ?_
  refine AW.block ?_
  repeat refine AW.seq ?_
  refine AW.rounds ?_
  refine AWin.next [1, 2, 5] (h := ?_)
  repeat refine AW.seq ?_
  refine AW.reg ?_
  iterate 2 refine AOL.s1 (h := ?_)
  refine AOL.nil ?_
  refine AW.kq [1, 2, 5, 41] (h := ?_)
  repeat refine AW.seq ?_
  refine AW.cond rfl (fun c_ => ?_) (fun c_ => ?_)
  rotate_left
  · cases c_
  refine AW.skip ?_
  repeat refine AW.seq ?_
  refine AW.block ?_
  repeat refine AW.seq ?_
  refine AW.reg ?_
  iterate 6 refine AOL.s1 (h := ?_)
  refine AOL.nil ?_
  refine AW.kq [1, 2, 5, 6] (h := ?_)
  repeat refine AW.seq ?_
  refine AW.midK [1, 2, 5, 6, 91] (fun t => ∃ b : Bool, t = ⟨125, [(1, i dn), (2, .ptr 1032 0), (5, i 0), (6, .ptr 1096 0), (91, bo b)], [(1032, ⟨42, true, [u mr, u mi, u mo, u ms, u xk, u xv, u xo, u xr, i xa, ul xp, u yk, u yv, u yo, u yr, i ya, ul yp, u pv, u po, u pr, u qv, u qo, u qr]⟩), (1096, ⟨38, true, [u xk, u xv, u xo, u xr, i xa, ul xp]⟩)]⟩ ∧ b = !inF ⟨xk, (xv, xo, xr), xa, xp⟩ dn) ?_ ?_
  · cases g1 : ((xp.length : Int) != dn) with
    | true =>
      refine AW.drw 15 [] (by kernel_rfl) (h := ?_)
      iterate 15 refine ADL.dm 1 (h := ?_)
      refine ADL.done hmix rfl rfl (hT := ?_)
      iterate 29 refine AOL.s1 (h := ?_)
      refine AOL.nil ?_
      exact ⟨_, rfl, by rw [show inF ⟨xk, (xv, xo, xr), xa, xp⟩ dn = false from Bool.eq_false_iff.2 (by intro h; simp only [inF, Bool.and_eq_true, decide_eq_true_eq] at h; simp at g1; omega)]; rfl⟩
    | false =>
      cases g2 : decide (xa < 0) with
      | true =>
        refine AW.drw 15 [] (by kernel_rfl) (h := ?_)
        iterate 15 refine ADL.dm 1 (h := ?_)
        refine ADL.done hmix rfl rfl (hT := ?_)
        iterate 29 refine AOL.s1 (h := ?_)
        refine AOL.nil ?_
        exact ⟨_, rfl, by rw [show inF ⟨xk, (xv, xo, xr), xa, xp⟩ dn = false from Bool.eq_false_iff.2 (by intro h; simp only [inF, Bool.and_eq_true, decide_eq_true_eq] at h; simp at g2; omega)]; rfl⟩
      | false =>
        refine AW.drw 15 [] (by kernel_rfl) (h := ?_)
        iterate 15 refine ADL.dm 1 (h := ?_)
        refine ADL.done hmix rfl rfl (hT := ?_)
        refine AOL.kq [1, 2, 5, 6, 58, 60, 62] (h := ?_)
        iterate 2 refine AOL.s1 (h := ?_)
        iterate 1 refine AOL.s1 (h := ?_)
        refine AOL.kq [1, 2, 5, 6, 65] (h := ?_)
        refine AOL.or 65 70 (os' := ?_) (x := ?_) (h1 := ?_) (h0 := ?_) (h := ?_)
        rotate_left 2
        iterate 2
          · intro hb_ K' hK; (first | (iterate 5 refine AOL.s1 (h := ?_)) | ((iterate 2 refine AOL.s1 (h := ?_)); refine AOL.callD rfl (obolref18_below_c x1) (by kernel_rfl) rfl rfl (h := ?_); (iterate 2 refine AOL.s1 (h := ?_)))); refine AOL.kq [1, 2, 5, 6, 70] (h := ?_); exact hK
        iterate 1 refine AOL.s1 (h := ?_)
        refine AOL.kq [1, 2, 5, 6, 71] (h := ?_)
        refine AOL.or 71 77 (os' := ?_) (x := ?_) (h1 := ?_) (h0 := ?_) (h := ?_)
        rotate_left 2
        iterate 2
          · intro hb_ K' hK; (first | (iterate 6 refine AOL.s1 (h := ?_)) | ((iterate 3 refine AOL.s1 (h := ?_)); refine AOL.callD rfl (obolref18_below_c x2) (by kernel_rfl) rfl rfl (h := ?_); (iterate 2 refine AOL.s1 (h := ?_)))); refine AOL.kq [1, 2, 5, 6, 77] (h := ?_); exact hK
        iterate 1 refine AOL.s1 (h := ?_)
        refine AOL.kq [1, 2, 5, 6, 78] (h := ?_)
        refine AOL.or 78 84 (os' := ?_) (x := ?_) (h1 := ?_) (h0 := ?_) (h := ?_)
        rotate_left 2
        iterate 2
          · intro hb_ K' hK; (first | (iterate 6 refine AOL.s1 (h := ?_)) | ((iterate 3 refine AOL.s1 (h := ?_)); refine AOL.callD rfl (obolref18_below_c x3) (by kernel_rfl) rfl rfl (h := ?_); (iterate 2 refine AOL.s1 (h := ?_)))); refine AOL.kq [1, 2, 5, 6, 84] (h := ?_); exact hK
        iterate 1 refine AOL.s1 (h := ?_)
        refine AOL.kq [1, 2, 5, 6, 85] (h := ?_)
        refine AOL.or 85 91 (os' := ?_) (x := ?_) (h1 := ?_) (h0 := ?_) (h := ?_)
        rotate_left 2
        iterate 2
          · intro hb_ K' hK; (first | (iterate 6 refine AOL.s1 (h := ?_)) | ((iterate 3 refine AOL.s1 (h := ?_)); refine AOL.callD rfl (obolref18_below_c x4) (by kernel_rfl) rfl rfl (h := ?_); (iterate 2 refine AOL.s1 (h := ?_)))); refine AOL.kq [1, 2, 5, 6, 91] (h := ?_); exact hK
        refine AOL.nil ?_
        have h1 : decide ((xp.length : Int) = dn) = true := by simpa using g1
        have h2 : decide (0 ≤ xa) = true := by simpa using g2
        have h3 : decide (xa ≥ 2 ^ dn) = !decide (xa < 2 ^ dn) := by rw [← decide_not]; exact decide_eq_decide.2 (by omega)
        exact ⟨_, rfl, by simp only [inF, h1, h2, h3, Int.toNat_natCast, bw, Bool.true_and, Bool.not_and]⟩
  rintro t ⟨b_, rfl, hb⟩
  repeat refine AW.seq ?_
  refine AW.cond rfl (fun d0 => ?_) (fun d0 => ?_)
  · have e : inF ⟨xk, (xv, xo, xr), xa, xp⟩ dn = false := by rw [d0] at hb; simpa using hb.symm
    rw [e]
    repeat refine AW.seq ?_
    refine AW.reg ?_
    iterate 1 refine AOL.s1 (h := ?_)
    refine AOL.nil ?_
    refine AW.kq [4] (h := ?_)
    repeat refine AW.seq ?_
    refine AW.ret ?_
    refine ⟨_, [], rfl, HOk.nil _, ?_⟩
    simp only [one?, Bool.false_and, Bool.and_false]
  have e0 : inF ⟨xk, (xv, xo, xr), xa, xp⟩ dn = true := by rw [d0] at hb; simpa using hb.symm
  have l0 : xp.length ≤ dn ∧ dn ≤ xp.length := by simp [inF] at e0; omega
  rw [e0]
  clear d0 hb e0
  refine AW.skip ?_
  repeat refine AW.seq ?_
  refine AW.reg ?_
  iterate 1 refine AOL.s1 (h := ?_)
  refine AOL.nil ?_
  refine AW.kq [1, 2, 5, 6, 7] (h := ?_)
  repeat refine AW.seq ?_
  refine AW.block ?_
  repeat refine AW.seq ?_
  refine AW.loopK [1, 2, 5, 6, 7] (fun n s => ∃ (k : Nat) (r : List Int), s = ⟨125, [(1, i dn), (2, .ptr 1032 0), (5, i 0), (6, .ptr 1096 0), (7, i k)], [(1032, ⟨42, true, [u mr, u mi, u mo, u ms, u xk, u xv, u xo, u xr, i xa, ul xp, u yk, u yv, u yo, u yr, i ya, ul yp, u pv, u po, u pr, u qv, u qo, u qr]⟩), (1096, ⟨38, true, [u xk, u xv, u xo, u xr, i xa, ul xp]⟩)]⟩ ∧ xp.drop k = r ∧ k ≤ xp.length ∧ n = r.length ∧ r.all bw = xp.all bw) xp.length ?_ ?_
  · exact ⟨0, xp, rfl, rfl, Nat.zero_le _, rfl, rfl⟩
  rintro n s ⟨k, r, rfl, hr, hkl, rfl, hi⟩
  repeat refine AW.seq ?_
  refine AW.reg ?_
  iterate 3 refine AOL.s1 (h := ?_)
  refine AOL.nil ?_
  refine AW.kq [1, 2, 5, 6, 7, 94] (h := ?_)
  repeat refine AW.seq ?_
  refine AW.cond rfl (fun e_ => ?_) (fun e_ => ?_)
  · obtain ⟨t, r, rfl⟩ := ends_cons hr hkl (by simp at e_; omega)
    obtain ⟨hlt, hr', ht⟩ := dconsq hr
    have hw := incq hlt x7
    have k0 : (0:Int) ≤ k := by omega
    have k1 : (k:Int) < dn := by omega
    have k1' : (k:Int) < xp.length := by omega
    have hz1 : (fm u1 xp).drop (k * 1) = u t :: fm u1 r := fm_drop u1_len hr
    have hz : (fm u1 xp).drop k = u t :: fm u1 r := by simpa using hz1
    have wt : w64 t := x6 t (List.mem_of_getElem? ht)
    clear hz1
    refine AW.skip ?_
    repeat refine AW.seq ?_
    refine AW.block ?_
    repeat refine AW.seq ?_
    refine AW.reg ?_
    iterate 5 refine AOL.s1 (h := ?_)
    refine AOL.callD rfl (obolref18_below_c wt) (by kernel_rfl) rfl rfl (h := ?_)
    iterate 1 refine AOL.s1 (h := ?_)
    refine AOL.nil ?_
    refine AW.kq [1, 2, 5, 6, 7, 8] (h := ?_)
    repeat refine AW.seq ?_
    refine AW.reg ?_
    iterate 2 refine AOL.s1 (h := ?_)
    refine AOL.nil ?_
    refine AW.kq [1, 2, 5, 6, 7, 104] (h := ?_)
    repeat refine AW.seq ?_
    refine AW.cond rfl (fun f_ => ?_) (fun f_ => ?_)
    · have g_ : bw t = false := by simpa [bw] using f_
      have h_ : xp.all bw = false := by rw [← hi, List.all_cons, g_, Bool.false_and]
      rw [h_]
      repeat refine AW.seq ?_
      refine AW.reg ?_
      iterate 1 refine AOL.s1 (h := ?_)
      refine AOL.nil ?_
      refine AW.kq [4] (h := ?_)
      repeat refine AW.seq ?_
      refine AW.ret ?_
      refine ⟨_, [], rfl, HOk.nil _, ?_⟩
      simp only [one?, Bool.false_and, Bool.and_false]
    have g_ : bw t = true := by simpa [bw] using f_
    have hi : r.all bw = xp.all bw := by rw [← hi, List.all_cons, g_, Bool.true_and]
    clear f_
    refine AW.skip ?_
    repeat refine AW.seq ?_
    refine AW.reg ?_
    iterate 3 refine AOL.s1 (h := ?_)
    refine AOL.nil ?_
    exact ⟨r.length, by simp, k + 1, r, rfl, hr', hlt, rfl, hi⟩
  obtain rfl := ends_nil hr (by simp at e_; omega)
  have hi : xp.all bw = true := hi.symm
  rw [hi]
  clear hi hr hkl e_
  repeat refine AW.seq ?_
  refine AW.exit ?_
  repeat (first | refine Kseq.ex ?_ | refine Kloop.ex ?_ | refine Kblock.miss (by decide) ?_)
  refine Kblock.hit ?_
  refine AW.kq [1, 2, 5] (h := ?_)
  repeat refine AW.seq ?_
  refine AW.reg ?_
  iterate 6 refine AOL.s1 (h := ?_)
  refine AOL.nil ?_
  refine AW.kq [1, 2, 5, 9] (h := ?_)
  repeat refine AW.seq ?_
  refine AW.reg ?_
  iterate 2 refine AOL.s1 (h := ?_)
  refine AOL.callD rfl (obolref18_below_c p1) (by kernel_rfl) rfl rfl (h := ?_)
  iterate 2 refine AOL.s1 (h := ?_)
  refine AOL.kq [1, 2, 5, 9, 113] (h := ?_)
  refine AOL.or 113 118 (os' := ?_) (x := ?_) (h1 := ?_) (h0 := ?_) (h := ?_)
  rotate_left 2
  iterate 2
    · intro hb_ K' hK; (first | (iterate 5 refine AOL.s1 (h := ?_)) | ((iterate 2 refine AOL.s1 (h := ?_)); refine AOL.callD rfl (obolref18_below_c p2) (by kernel_rfl) rfl rfl (h := ?_); (iterate 2 refine AOL.s1 (h := ?_)))); refine AOL.kq [1, 2, 5, 9, 118] (h := ?_); exact hK
  iterate 1 refine AOL.s1 (h := ?_)
  refine AOL.kq [1, 2, 5, 9, 119] (h := ?_)
  refine AOL.or 119 124 (os' := ?_) (x := ?_) (h1 := ?_) (h0 := ?_) (h := ?_)
  rotate_left 2
  iterate 2
    · intro hb_ K' hK; (first | (iterate 5 refine AOL.s1 (h := ?_)) | ((iterate 2 refine AOL.s1 (h := ?_)); refine AOL.callD rfl (obolref18_below_c p3) (by kernel_rfl) rfl rfl (h := ?_); (iterate 2 refine AOL.s1 (h := ?_)))); refine AOL.kq [1, 2, 5, 9, 124] (h := ?_); exact hK
  refine AOL.nil ?_
  refine AW.kq [1, 2, 5, 124] (h := ?_)
  repeat refine AW.seq ?_
  refine AW.cond rfl (fun m0 => ?_) (fun m0 => ?_)
  · have e : outF (pv, po, pr) = false := Bool.eq_false_iff.2 (by intro h; simp only [outF, bw, Bool.and_eq_true, decide_eq_true_eq] at h; simp at m0; omega)
    rw [e]
    repeat refine AW.seq ?_
    refine AW.reg ?_
    iterate 1 refine AOL.s1 (h := ?_)
    refine AOL.nil ?_
    refine AW.kq [4] (h := ?_)
    repeat refine AW.seq ?_
    refine AW.ret ?_
    refine ⟨_, [], rfl, HOk.nil _, ?_⟩
    simp only [one?, Bool.false_and, Bool.and_false]
  have e : outF (pv, po, pr) = true := by simp only [outF, bw, Bool.and_eq_true, decide_eq_true_eq]; simp at m0; omega
  rw [e]
  clear m0 e
  refine AW.skip ?_
  repeat refine AW.seq ?_
  refine AW.let 1096 (h := ?_)
  refine AW.let 1144 (h := ?_)
  refine AW.reg ?_
  iterate 3 refine AOL.s1 (h := ?_)
  refine AOL.nil ?_
  refine AWin.next [1, 2, 5] (h := ?_)
  repeat refine AW.seq ?_
  refine AW.reg ?_
  iterate 2 refine AOL.s1 (h := ?_)
  refine AOL.nil ?_
  refine AW.kq [1, 2, 5, 41] (h := ?_)
  repeat refine AW.seq ?_
  refine AW.cond rfl (fun c_ => ?_) (fun c_ => ?_)
  rotate_left
  · cases c_
  refine AW.skip ?_
  repeat refine AW.seq ?_
  refine AW.block ?_
  repeat refine AW.seq ?_
  refine AW.reg ?_
  iterate 6 refine AOL.s1 (h := ?_)
  refine AOL.nil ?_
  refine AW.kq [1, 2, 5, 6] (h := ?_)
  repeat refine AW.seq ?_
  refine AW.midK [1, 2, 5, 6, 91] (fun t => ∃ b : Bool, t = ⟨125, [(1, i dn), (2, .ptr 1032 0), (5, i 1), (6, .ptr 1096 0), (91, bo b)], [(1032, ⟨42, true, [u mr, u mi, u mo, u ms, u xk, u xv, u xo, u xr, i xa, ul xp, u yk, u yv, u yo, u yr, i ya, ul yp, u pv, u po, u pr, u qv, u qo, u qr]⟩), (1096, ⟨38, true, [u yk, u yv, u yo, u yr, i ya, ul yp]⟩)]⟩ ∧ b = !inF ⟨yk, (yv, yo, yr), ya, yp⟩ dn) ?_ ?_
  · cases g1 : ((yp.length : Int) != dn) with
    | true =>
      refine AW.drw 15 [] (by kernel_rfl) (h := ?_)
      iterate 15 refine ADL.dm 1 (h := ?_)
      refine ADL.done hmix rfl rfl (hT := ?_)
      iterate 29 refine AOL.s1 (h := ?_)
      refine AOL.nil ?_
      exact ⟨_, rfl, by rw [show inF ⟨yk, (yv, yo, yr), ya, yp⟩ dn = false from Bool.eq_false_iff.2 (by intro h; simp only [inF, Bool.and_eq_true, decide_eq_true_eq] at h; simp at g1; omega)]; rfl⟩
    | false =>
      cases g2 : decide (ya < 0) with
      | true =>
        refine AW.drw 15 [] (by kernel_rfl) (h := ?_)
        iterate 15 refine ADL.dm 1 (h := ?_)
        refine ADL.done hmix rfl rfl (hT := ?_)
        iterate 29 refine AOL.s1 (h := ?_)
        refine AOL.nil ?_
        exact ⟨_, rfl, by rw [show inF ⟨yk, (yv, yo, yr), ya, yp⟩ dn = false from Bool.eq_false_iff.2 (by intro h; simp only [inF, Bool.and_eq_true, decide_eq_true_eq] at h; simp at g2; omega)]; rfl⟩
      | false =>
        refine AW.drw 15 [] (by kernel_rfl) (h := ?_)
        iterate 15 refine ADL.dm 1 (h := ?_)
        refine ADL.done hmix rfl rfl (hT := ?_)
        refine AOL.kq [1, 2, 5, 6, 58, 60, 62] (h := ?_)
        iterate 2 refine AOL.s1 (h := ?_)
        iterate 1 refine AOL.s1 (h := ?_)
        refine AOL.kq [1, 2, 5, 6, 65] (h := ?_)
        refine AOL.or 65 70 (os' := ?_) (x := ?_) (h1 := ?_) (h0 := ?_) (h := ?_)
        rotate_left 2
        iterate 2
          · intro hb_ K' hK; (first | (iterate 5 refine AOL.s1 (h := ?_)) | ((iterate 2 refine AOL.s1 (h := ?_)); refine AOL.callD rfl (obolref18_below_c y1) (by kernel_rfl) rfl rfl (h := ?_); (iterate 2 refine AOL.s1 (h := ?_)))); refine AOL.kq [1, 2, 5, 6, 70] (h := ?_); exact hK
        iterate 1 refine AOL.s1 (h := ?_)
        refine AOL.kq [1, 2, 5, 6, 71] (h := ?_)
        refine AOL.or 71 77 (os' := ?_) (x := ?_) (h1 := ?_) (h0 := ?_) (h := ?_)
        rotate_left 2
        iterate 2
          · intro hb_ K' hK; (first | (iterate 6 refine AOL.s1 (h := ?_)) | ((iterate 3 refine AOL.s1 (h := ?_)); refine AOL.callD rfl (obolref18_below_c y2) (by kernel_rfl) rfl rfl (h := ?_); (iterate 2 refine AOL.s1 (h := ?_)))); refine AOL.kq [1, 2, 5, 6, 77] (h := ?_); exact hK
        iterate 1 refine AOL.s1 (h := ?_)
        refine AOL.kq [1, 2, 5, 6, 78] (h := ?_)
        refine AOL.or 78 84 (os' := ?_) (x := ?_) (h1 := ?_) (h0 := ?_) (h := ?_)
        rotate_left 2
        iterate 2
          · intro hb_ K' hK; (first | (iterate 6 refine AOL.s1 (h := ?_)) | ((iterate 3 refine AOL.s1 (h := ?_)); refine AOL.callD rfl (obolref18_below_c y3) (by kernel_rfl) rfl rfl (h := ?_); (iterate 2 refine AOL.s1 (h := ?_)))); refine AOL.kq [1, 2, 5, 6, 84] (h := ?_); exact hK
        iterate 1 refine AOL.s1 (h := ?_)
        refine AOL.kq [1, 2, 5, 6, 85] (h := ?_)
        refine AOL.or 85 91 (os' := ?_) (x := ?_) (h1 := ?_) (h0 := ?_) (h := ?_)
        rotate_left 2
        iterate 2
          · intro hb_ K' hK; (first | (iterate 6 refine AOL.s1 (h := ?_)) | ((iterate 3 refine AOL.s1 (h := ?_)); refine AOL.callD rfl (obolref18_below_c y4) (by kernel_rfl) rfl rfl (h := ?_); (iterate 2 refine AOL.s1 (h := ?_)))); refine AOL.kq [1, 2, 5, 6, 91] (h := ?_); exact hK
        refine AOL.nil ?_
        have h1 : decide ((yp.length : Int) = dn) = true := by simpa using g1
        have h2 : decide (0 ≤ ya) = true := by simpa using g2
        have h3 : decide (ya ≥ 2 ^ dn) = !decide (ya < 2 ^ dn) := by rw [← decide_not]; exact decide_eq_decide.2 (by omega)
        exact ⟨_, rfl, by simp only [inF, h1, h2, h3, Int.toNat_natCast, bw, Bool.true_and, Bool.not_and]⟩
  rintro t ⟨b_, rfl, hb⟩
  repeat refine AW.seq ?_
  refine AW.cond rfl (fun d1 => ?_) (fun d1 => ?_)
  · have e : inF ⟨yk, (yv, yo, yr), ya, yp⟩ dn = false := by rw [d1] at hb; simpa using hb.symm
    rw [e]
    repeat refine AW.seq ?_
    refine AW.reg ?_
    iterate 1 refine AOL.s1 (h := ?_)
    refine AOL.nil ?_
    refine AW.kq [4] (h := ?_)
    repeat refine AW.seq ?_
    refine AW.ret ?_
    refine ⟨_, [], rfl, HOk.nil _, ?_⟩
    simp only [one?, Bool.false_and, Bool.and_false]
  have e1 : inF ⟨yk, (yv, yo, yr), ya, yp⟩ dn = true := by rw [d1] at hb; simpa using hb.symm
  have l1 : yp.length ≤ dn ∧ dn ≤ yp.length := by simp [inF] at e1; omega
  rw [e1]
  clear d1 hb e1
  refine AW.skip ?_
  repeat refine AW.seq ?_
  refine AW.reg ?_
  iterate 1 refine AOL.s1 (h := ?_)
  refine AOL.nil ?_
  refine AW.kq [1, 2, 5, 6, 7] (h := ?_)
  repeat refine AW.seq ?_
  refine AW.block ?_
  repeat refine AW.seq ?_
  refine AW.loopK [1, 2, 5, 6, 7] (fun n s => ∃ (k : Nat) (r : List Int), s = ⟨125, [(1, i dn), (2, .ptr 1032 0), (5, i 1), (6, .ptr 1096 0), (7, i k)], [(1032, ⟨42, true, [u mr, u mi, u mo, u ms, u xk, u xv, u xo, u xr, i xa, ul xp, u yk, u yv, u yo, u yr, i ya, ul yp, u pv, u po, u pr, u qv, u qo, u qr]⟩), (1096, ⟨38, true, [u yk, u yv, u yo, u yr, i ya, ul yp]⟩)]⟩ ∧ yp.drop k = r ∧ k ≤ yp.length ∧ n = r.length ∧ r.all bw = yp.all bw) yp.length ?_ ?_
  · exact ⟨0, yp, rfl, rfl, Nat.zero_le _, rfl, rfl⟩
  rintro n s ⟨k, r, rfl, hr, hkl, rfl, hi⟩
  repeat refine AW.seq ?_
  refine AW.reg ?_
  iterate 3 refine AOL.s1 (h := ?_)
  refine AOL.nil ?_
  refine AW.kq [1, 2, 5, 6, 7, 94] (h := ?_)
  repeat refine AW.seq ?_
  refine AW.cond rfl (fun e_ => ?_) (fun e_ => ?_)
  · obtain ⟨t, r, rfl⟩ := ends_cons hr hkl (by simp at e_; omega)
    obtain ⟨hlt, hr', ht⟩ := dconsq hr
    have hw := incq hlt y7
    have k0 : (0:Int) ≤ k := by omega
    have k1 : (k:Int) < dn := by omega
    have k1' : (k:Int) < yp.length := by omega
    have hz1 : (fm u1 yp).drop (k * 1) = u t :: fm u1 r := fm_drop u1_len hr
    have hz : (fm u1 yp).drop k = u t :: fm u1 r := by simpa using hz1
    have wt : w64 t := y6 t (List.mem_of_getElem? ht)
    clear hz1
    refine AW.skip ?_
    repeat refine AW.seq ?_
    refine AW.block ?_
    repeat refine AW.seq ?_
    refine AW.reg ?_
    iterate 5 refine AOL.s1 (h := ?_)
    refine AOL.callD rfl (obolref18_below_c wt) (by kernel_rfl) rfl rfl (h := ?_)
    iterate 1 refine AOL.s1 (h := ?_)
    refine AOL.nil ?_
    refine AW.kq [1, 2, 5, 6, 7, 8] (h := ?_)
    repeat refine AW.seq ?_
    refine AW.reg ?_
    iterate 2 refine AOL.s1 (h := ?_)
    refine AOL.nil ?_
    refine AW.kq [1, 2, 5, 6, 7, 104] (h := ?_)
    repeat refine AW.seq ?_
    refine AW.cond rfl (fun f_ => ?_) (fun f_ => ?_)
    · have g_ : bw t = false := by simpa [bw] using f_
      have h_ : yp.all bw = false := by rw [← hi, List.all_cons, g_, Bool.false_and]
      rw [h_]
      repeat refine AW.seq ?_
      refine AW.reg ?_
      iterate 1 refine AOL.s1 (h := ?_)
      refine AOL.nil ?_
      refine AW.kq [4] (h := ?_)
      repeat refine AW.seq ?_
      refine AW.ret ?_
      refine ⟨_, [], rfl, HOk.nil _, ?_⟩
      simp only [one?, Bool.false_and, Bool.and_false]
    have g_ : bw t = true := by simpa [bw] using f_
    have hi : r.all bw = yp.all bw := by rw [← hi, List.all_cons, g_, Bool.true_and]
    clear f_
    refine AW.skip ?_
    repeat refine AW.seq ?_
    refine AW.reg ?_
    iterate 3 refine AOL.s1 (h := ?_)
    refine AOL.nil ?_
    exact ⟨r.length, by simp, k + 1, r, rfl, hr', hlt, rfl, hi⟩
  obtain rfl := ends_nil hr (by simp at e_; omega)
  have hi : yp.all bw = true := hi.symm
  rw [hi]
  clear hi hr hkl e_
  repeat refine AW.seq ?_
  refine AW.exit ?_
  repeat (first | refine Kseq.ex ?_ | refine Kloop.ex ?_ | refine Kblock.miss (by decide) ?_)
  refine Kblock.hit ?_
  refine AW.kq [1, 2, 5] (h := ?_)
  repeat refine AW.seq ?_
  refine AW.reg ?_
  iterate 6 refine AOL.s1 (h := ?_)
  refine AOL.nil ?_
  refine AW.kq [1, 2, 5, 9] (h := ?_)
  repeat refine AW.seq ?_
  refine AW.reg ?_
  iterate 2 refine AOL.s1 (h := ?_)
  refine AOL.callD rfl (obolref18_below_c q1) (by kernel_rfl) rfl rfl (h := ?_)
  iterate 2 refine AOL.s1 (h := ?_)
  refine AOL.kq [1, 2, 5, 9, 113] (h := ?_)
  refine AOL.or 113 118 (os' := ?_) (x := ?_) (h1 := ?_) (h0 := ?_) (h := ?_)
  rotate_left 2
  iterate 2
    · intro hb_ K' hK; (first | (iterate 5 refine AOL.s1 (h := ?_)) | ((iterate 2 refine AOL.s1 (h := ?_)); refine AOL.callD rfl (obolref18_below_c q2) (by kernel_rfl) rfl rfl (h := ?_); (iterate 2 refine AOL.s1 (h := ?_)))); refine AOL.kq [1, 2, 5, 9, 118] (h := ?_); exact hK
  iterate 1 refine AOL.s1 (h := ?_)
  refine AOL.kq [1, 2, 5, 9, 119] (h := ?_)
  refine AOL.or 119 124 (os' := ?_) (x := ?_) (h1 := ?_) (h0 := ?_) (h := ?_)
  rotate_left 2
  iterate 2
    · intro hb_ K' hK; (first | (iterate 5 refine AOL.s1 (h := ?_)) | ((iterate 2 refine AOL.s1 (h := ?_)); refine AOL.callD rfl (obolref18_below_c q3) (by kernel_rfl) rfl rfl (h := ?_); (iterate 2 refine AOL.s1 (h := ?_)))); refine AOL.kq [1, 2, 5, 9, 124] (h := ?_); exact hK
  refine AOL.nil ?_
  refine AW.kq [1, 2, 5, 124] (h := ?_)
  repeat refine AW.seq ?_
  refine AW.cond rfl (fun m1 => ?_) (fun m1 => ?_)
  · have e : outF (qv, qo, qr) = false := Bool.eq_false_iff.2 (by intro h; simp only [outF, bw, Bool.and_eq_true, decide_eq_true_eq] at h; simp at m1; omega)
    rw [e]
    repeat refine AW.seq ?_
    refine AW.reg ?_
    iterate 1 refine AOL.s1 (h := ?_)
    refine AOL.nil ?_
    refine AW.kq [4] (h := ?_)
    repeat refine AW.seq ?_
    refine AW.ret ?_
    refine ⟨_, [], rfl, HOk.nil _, ?_⟩
    simp only [one?, Bool.false_and, Bool.and_false]
  have e : outF (qv, qo, qr) = true := by simp only [outF, bw, Bool.and_eq_true, decide_eq_true_eq]; simp at m1; omega
  rw [e]
  clear m1 e
  refine AW.skip ?_
  repeat refine AW.seq ?_
  refine AW.let 1096 (h := ?_)
  refine AW.let 1144 (h := ?_)
  refine AW.reg ?_
  iterate 3 refine AOL.s1 (h := ?_)
  refine AOL.nil ?_
  refine AWin.next [1, 2, 5] (h := ?_)
  repeat refine AW.seq ?_
  refine AW.reg ?_
  iterate 2 refine AOL.s1 (h := ?_)
  refine AOL.nil ?_
  refine AW.kq [1, 2, 5, 41] (h := ?_)
  repeat refine AW.seq ?_
  refine AW.cond rfl (fun c_ => ?_) (fun c_ => ?_)
  · cases c_
  repeat refine AW.seq ?_
  refine AW.exit ?_
  repeat (first | refine Kseq.ex ?_ | refine Kloop.ex ?_ | refine Kblock.miss (by decide) ?_)
  refine Kblock.hit ?_
  refine AW.kq [] (h := ?_)
  repeat refine AW.seq ?_
  refine AW.reg ?_
  iterate 1 refine AOL.s1 (h := ?_)
  refine AOL.nil ?_
  refine AW.kq [4] (h := ?_)
  repeat refine AW.seq ?_
  refine AW.ret ?_
  refine ⟨_, [], rfl, HOk.nil _, ?_⟩
  rfl
end Go.Proofs.Ythajlelljnkdiaa.E.M

