/- Setup's keys: a contract over E. -/
import Derived.Test.YtdbpjegocmdplaaGroE
import Derived.Test.YtdbpjegocmdplaaQapK
import Derived.Test.YtdbpjegocmdplaaEI
import Derived.Test.YtdbpjegocmdplaaProg
import Derived.KernelRfl
set_option linter.unusedVariables false
set_option linter.unusedSimpArgs false
set_option maxRecDepth 10000
open Go Go.Proofs.Ytdbpjegocmdplaa.E Go.Proofs
namespace Go.Proofs.Ytdbpjegocmdplaa.E.M
theorem qap_At_f {s : Rk} {x : Int} {n : Nat} (hS : Len s) (hx : w64 x) (hc : chkF s = true) (hn : s.v = n) : Fn Try.prog 24 [.agg (rk s), u x] [] (fun r _ => r = .tup [.sl n (sub 0 (n * 1) (fm u1 (atL Rw.a s x))), .sl n (sub 0 (n * 1) (fm u1 (atL Rw.b s x))), .sl n (sub 0 (n * 1) (fm u1 (atL Rw.c s x))), u (zF (lg s.l.length) x), nil_]) := by
  have h := qap_At_o hS hx hc hn
  generalize atL Rw.a s x = A at *
  generalize atL Rw.b s x = B at *
  generalize atL Rw.c s x = C at *
  generalize zF (lg s.l.length) x = z at *
  have h1 : Fn Try.prog 24 [.agg (rk s), u x] [] (fun r h_ => ∃ l m : Nat, l ≠ m ∧ r = .tup [.sl n (sub 0 (n * 1) (fm u1 A)), .ref l 0 n 1, .ref m 0 n 1, u z, nil_] ∧ h_ = [(l, blk B), (m, blk C)]) := by
    refine Fn.fz h ?_
    rintro r hh ⟨f, _, _, h3, rfl, rfl⟩
    have e1 : f 1001 ≠ f 1000 := fun e => absurd (h3 1001 (by simp [hlabs]) 1000 (by simp [hlabs]) e) (by decide)
    have e2 : f 1002 ≠ f 1000 := fun e => absurd (h3 1002 (by simp [hlabs]) 1000 (by simp [hlabs]) e) (by decide)
    have e3 : f 1001 ≠ f 1002 := fun e => absurd (h3 1001 (by simp [hlabs]) 1002 (by simp [hlabs]) e) (by decide)
    refine ⟨f 1000, blk A, by simp [mapS, get?, renB, rens_fm u1_free], fun h => (by cases h), f 1001, f 1002, e3, ?_, ?_⟩
    · simp only [ren, rens, frz, frzs, if_true, if_neg e1, if_neg e2]
    · simp [mapS, renB, rens_fm u1_free, del, e1, e2, mapF]
  have h2 : Fn Try.prog 24 [.agg (rk s), u x] [] (fun r h_ => ∃ m : Nat, r = .tup [.sl n (sub 0 (n * 1) (fm u1 A)), .sl n (sub 0 (n * 1) (fm u1 B)), .ref m 0 n 1, u z, nil_] ∧ h_ = [(m, blk C)]) := by
    refine Fn.fz h1 ?_
    rintro r hh ⟨l, m, e, rfl, rfl⟩
    refine ⟨l, blk B, by simp [get?], fun h => (by cases h), m, ?_, ?_⟩
    · simp only [frz, frzs, if_true, if_neg e.symm]
    · simp [del, e.symm, mapF]
  refine (Fn.fz (R' := fun r _ => r = .tup [.sl n (sub 0 (n * 1) (fm u1 A)), .sl n (sub 0 (n * 1) (fm u1 B)), .sl n (sub 0 (n * 1) (fm u1 C)), u z, nil_]) h2 ?_)
  rintro r hh ⟨m, rfl, rfl⟩
  exact ⟨m, blk C, by simp [get?], fun h => (by cases h), by simp only [frz, frzs, if_true]⟩
theorem qap_At_c {s : Rk} {x : Int} {n : Nat} (hS : Len s) (hx : w64 x) (hc : chkF s = true) (hn : s.v = n) : Fn Try.prog 24 [.agg (rk s), u x] [] (fun r _ => r = .tup [ul (atL Rw.a s x), ul (atL Rw.b s x), ul (atL Rw.c s x), u (zF (lg s.l.length) x), nil_]) := by
  refine (qap_At_f hS hx hc hn).mono ?_
  rintro r _ rfl
  have l : ∀ sel, (atL sel s x).length = n := fun sel => by unfold atL; rw [atF_len, List.length_replicate, hn]; rfl
  have e : ∀ sel, AV.sl n (sub 0 (n * 1) (fm u1 (atL sel s x))) = ul (atL sel s x) := fun sel => by
    rw [sub_all (Nat.le_of_eq (by rw [fml, l, Nat.mul_one])), ul_def, l]
  rw [e, e, e]
abbrev zP : List AV := [bo false, u 0, u 0, bo false, u 0, u 0, bo false, u 0, u 0, .val (.slice none 0 0), .val (.slice none 0 0), .val (.slice none 0 0), .val (.slice none 0 0)]
abbrev zV : List AV := [bo false, u 0, u 0, bo false, u 0, u 0, bo false, u 0, u 0, bo false, u 0, u 0, .val (.slice none 0 0)]
abbrev pkc (A B D : P3) (LA LB LL LH : List P3) : List AV := [bo A.1, u A.2.1, u A.2.2, bo B.1, u B.2.1, u B.2.2, bo D.1, u D.2.1, u D.2.2, pl LA, pl LB, pl LL, pl LH]
def uF (al be a b c : Int) : Int := ((be * a % 288230376287764481 + al * b % 288230376287764481) % 288230376287764481 + c) % 288230376287764481
def gT (x : Int) : P3 := timesP GG x
def aT (A : List Int) (j : Nat) : List P3 := (List.range j).map fun t => gT (A.getD t 0)
def uT (al be : Int) (A B C : List Int) (t : Nat) : Int := uF al be (A.getD t 0) (B.getD t 0) (C.getD t 0)
def iT (p : Int) (al be gi : Int) (A B C : List Int) (j : Nat) : List P3 := ((List.range j).filter fun (t : Nat) => decide ((t : Int) ≤ p)).map fun t => gT (uT al be A B C t * gi % 288230376287764481)
def lT (p : Int) (al be di : Int) (A B C : List Int) (j : Nat) : List P3 := ((List.range j).filter fun (t : Nat) => !decide ((t : Int) ≤ p)).map fun t => gT (uT al be A B C t * di % 288230376287764481)
def hT (h ta : Int) : Nat → Int
  | 0 => h
  | t + 1 => hT h ta t * ta % 288230376287764481
def hL (h ta : Int) (j : Nat) : List P3 := (List.range j).map fun t => gT (hT h ta t)
def keysF (n k : Nat) (p : Int) (A B C : List Int) (z al be ga de ta : Int) : AV :=
  .tup [.agg (pkc (gT al) (gT be) (gT de) (aT A n) (aT B n) (lT p al be (ipow 288230376287764481 de 288230376287764479) A B C n) (hL (z * ipow 288230376287764481 de 288230376287764479 % 288230376287764481) ta (2 ^ k - 1))),
    .agg (vkc (gT al) (gT be) (gT ga) (gT de) (iT p al be (ipow 288230376287764481 ga 288230376287764479) A B C n)), nil_]
def setF (s : Rk) (al be ga de ta : Int) : AV :=
  if chkF s = false then .tup [.agg zP, .agg zV, er 3]
  else if ([al, be, ga, de, ta].any fun v => decide (v ≥ 288230376287764481)) = true then .tup [.agg zP, .agg zV, er 1]
  else if ([al, be, ga, de, ta].any (fun v => (0:Int) == v) || zF (lg s.l.length) ta == 0) = true then .tup [.agg zP, .agg zV, er 7]
  else keysF s.v.toNat (lg s.l.length) s.p (atL Rw.a s ta) (atL Rw.b s ta) (atL Rw.c s ta) (zF (lg s.l.length) ta) al be ga de ta
theorem gT_pt (x : Int) : Pt (gT x) := timesP_pt gg_pt x
theorem aT_len (A : List Int) (j : Nat) : (aT A j).length = j := by simp [aT]
theorem aT_s (A : List Int) (j : Nat) : aT A (j + 1) = aT A j ++ [gT (A.getD j 0)] := by simp [aT, List.range_succ]
theorem hL_s (h ta : Int) (j : Nat) : hL h ta (j + 1) = hL h ta j ++ [gT (hT h ta j)] := by simp [hL, List.range_succ]
theorem hL_len (h ta : Int) (j : Nat) : (hL h ta j).length = j := by simp [hL]
theorem iT_s {p al be gi : Int} {A B C : List Int} {j : Nat} (h : (j : Int) ≤ p) : iT p al be gi A B C (j + 1) = iT p al be gi A B C j ++ [gT (uT al be A B C j * gi % 288230376287764481)] := by
  simp [iT, List.range_succ, List.filter_append, h]
theorem iT_n {p al be gi : Int} {A B C : List Int} {j : Nat} (h : ¬ (j : Int) ≤ p) : iT p al be gi A B C (j + 1) = iT p al be gi A B C j := by
  simp [iT, List.range_succ, List.filter_append, h]
theorem lT_n {p al be di : Int} {A B C : List Int} {j : Nat} (h : (j : Int) ≤ p) : lT p al be di A B C (j + 1) = lT p al be di A B C j := by
  simp [lT, List.range_succ, List.filter_append, h]
theorem lT_s {p al be di : Int} {A B C : List Int} {j : Nat} (h : ¬ (j : Int) ≤ p) : lT p al be di A B C (j + 1) = lT p al be di A B C j ++ [gT (uT al be A B C j * di % 288230376287764481)] := by
  simp [lT, List.range_succ, List.filter_append, h]
theorem iT_le (p al be gi : Int) (A B C : List Int) (j : Nat) : (iT p al be gi A B C j).length ≤ j := by
  simp only [iT, List.length_map]
  exact Nat.le_trans (List.length_filter_le _ _) (by simp)
theorem lT_le (p al be gi : Int) (A B C : List Int) (j : Nat) : (lT p al be gi A B C j).length ≤ j := by
  simp only [lT, List.length_map]
  exact Nat.le_trans (List.length_filter_le _ _) (by simp)
theorem chk_vg {s : Rk} (h : chkF s = true) : ∃ n : Nat, s.v = n ∧ 1 ≤ n ∧ n ≤ 4096 ∧ 0 ≤ s.p ∧ s.p < n ∧ s.l.length ≤ 4096 := by
  unfold chkF at h
  split at h
  · cases h
  · rename_i hb
    simp only [badF, Bool.or_eq_true, decide_eq_true_eq, not_or] at hb
    exact ⟨s.v.toNat, by omega, by omega, by omega, by omega, by omega, by omega⟩
theorem appq {f : Nat} (h : f ≤ 4096) : (f + 1) * 24 ≤ 140737488355328 ∧ f + 1 ≤ 4611686018427387904 ∧ f ≤ 4611686018427387903 := by omega
set_option maxHeartbeats 40000000 in
theorem groth_Setup_c {s : Rk} {al be ga de ta : Int} (hS : Len s) (wal : w64 al) (wbe : w64 be) (wga : w64 ga) (wde : w64 de) (wta : w64 ta) : Fn Try.prog 9 [.agg (rk s), .agg [u al, u be, u ga, u de, u ta]] [] (fun r h_ => r = setF s al be ga de ta) := by
  have cS := qap_Size_c hS
  have cF := slices_ContainsFunc_uint64_uint64_c (V := [al, be, ga, de, ta]) (g := 23) (p := fun v => decide (v ≥ 288230376287764481)) (by simp only [List.length_cons, List.length_nil]; decide) (by intro v hv; simp only [List.mem_cons, List.not_mem_nil, or_false] at hv; rcases hv with rfl | rfl | rfl | rfl | rfl <;> assumption) rfl (fun v _ => groth_Setup_1_c)
  have cC := slices_Contains_uint64_uint64_c (V := [al, be, ga, de, ta]) (x := 0) (by simp only [List.length_cons, List.length_nil]; decide) (by intro v hv; simp only [List.mem_cons, List.not_mem_nil, or_false] at hv; rcases hv with rfl | rfl | rfl | rfl | rfl <;> assumption) (by decide)
  unfold sizeF at cS
  unfold setF
  generalize ho_ : ([al, be, ga, de, ta].any fun v => decide (v ≥ 288230376287764481)) = o at *
  generalize hz_ : [al, be, ga, de, ta].any (fun v => (0:Int) == v) = zo at *
  refine Fn.enter Try.func9 Try.ntmps9 rfl (h := ?_)
  have tf := tf
  have tfr := tfr
  have tfl := tfl
  have tfg := tfg
  have ot_ : (false || true) = true := rfl
  have z5 : (5:Nat) ≤ 16777216 := by decide
  repeat refine AW.seq ?_
  refine AW.reg ?_
  iterate 5 refine AOL.s1 (h := ?_)
  refine AOL.nil ?_
  refine AW.kq [2, 3, 4, 5] (h := ?_)
  repeat refine AW.seq ?_
  cases hchk : chkF s with
  | false =>
    rw [hchk, if_neg (by decide)] at cS
    rw [if_pos rfl]
    refine AW.reg ?_
    iterate 1 refine AOL.s1 (h := ?_)
    refine AOL.callD rfl (cS) (by kernel_rfl) rfl rfl (h := ?_)
    iterate 5 refine AOL.s1 (h := ?_)
    refine AOL.nil ?_
    refine AW.kq [2, 3, 4, 5, 7, 8] (h := ?_)
    repeat refine AW.seq ?_
    refine AW.reg ?_
    iterate 2 refine AOL.s1 (h := ?_)
    refine AOL.nil ?_
    refine AW.kq [2, 3, 4, 5, 7, 8, 27] (h := ?_)
    repeat refine AW.seq ?_
    refine AW.cond rfl (fun c_ => ?_) (fun c_ => ?_)
    · repeat refine AW.seq ?_
      refine AW.reg ?_
      iterate 6 refine AOL.s1 (h := ?_)
      refine AOL.nil ?_
      refine AW.kq [4, 5, 6] (h := ?_)
      repeat refine AW.seq ?_
      refine AW.ret ?_
      refine ⟨_, [], rfl, HOk.nil _, ?_⟩
      rfl
    cases c_
  | true =>
  rw [hchk, if_pos rfl] at cS
  rw [if_neg (by decide)]
  obtain ⟨n, hn, n1, n2, p0, pn, hl⟩ := chk_vg hchk
  have hk := (lg_le hl).1
  have cA := qap_At_c hS wta hchk hn
  have lA : (atL Rw.a s ta).length = n := by unfold atL; rw [atF_len, List.length_replicate, hn]; rfl
  have lB : (atL Rw.b s ta).length = n := by unfold atL; rw [atF_len, List.length_replicate, hn]; rfl
  have lC : (atL Rw.c s ta).length = n := by unfold atL; rw [atF_len, List.length_replicate, hn]; rfl
  have wA : wV (atL Rw.a s ta) := atF_w _ _ _ _ _ (by intro v hv; rw [List.eq_of_mem_replicate hv]; decide)
  have wB : wV (atL Rw.b s ta) := atF_w _ _ _ _ _ (by intro v hv; rw [List.eq_of_mem_replicate hv]; decide)
  have wC : wV (atL Rw.c s ta) := atF_w _ _ _ _ _ (by intro v hv; rw [List.eq_of_mem_replicate hv]; decide)
  have wz : w64 (zF (lg s.l.length) ta) := w64_r _
  have hvn : s.v.toNat = n := by omega
  rw [hvn]
  clear hchk hvn hS
  generalize zF (lg s.l.length) ta = z at *
  generalize lg s.l.length = k at *
  generalize atL Rw.a s ta = A at *
  generalize atL Rw.b s ta = B at *
  generalize atL Rw.c s ta = C at *
  obtain ⟨sv, sp, sl_⟩ := s
  simp only at hn pn p0 hl ⊢
  subst hn
  refine AW.reg ?_
  iterate 1 refine AOL.s1 (h := ?_)
  refine AOL.callD rfl (cS) (by kernel_rfl) rfl rfl (h := ?_)
  iterate 5 refine AOL.s1 (h := ?_)
  refine AOL.nil ?_
  refine AW.kq [2, 3, 4, 5, 7, 8] (h := ?_)
  repeat refine AW.seq ?_
  refine AW.reg ?_
  iterate 2 refine AOL.s1 (h := ?_)
  refine AOL.nil ?_
  refine AW.kq [2, 3, 4, 5, 7, 8, 27] (h := ?_)
  repeat refine AW.seq ?_
  refine AW.cond rfl (fun c_ => ?_) (fun c_ => ?_)
  · cases c_
  refine AW.skip ?_
  repeat refine AW.seq ?_
  refine AW.reg ?_
  iterate 12 refine AOL.s1 (h := ?_)
  refine AOL.nil ?_
  refine AW.kq [2, 3, 4, 5, 7, 9] (h := ?_)
  refine AW.fz 1656 rfl (fun h => by cases h) (h := ?_)
  repeat refine AW.seq ?_
  refine AW.reg ?_
  iterate 1 refine AOL.s1 (h := ?_)
  refine AOL.callD rfl (cF) (by kernel_rfl) rfl rfl (h := ?_)
  refine AOL.nil ?_
  refine AW.kq [2, 3, 4, 5, 7, 9, 43] (h := ?_)
  repeat refine AW.seq ?_
  refine AW.cond rfl (fun c_ => ?_) (fun c_ => ?_)
  · have hob : o = true := c_
    rw [if_pos hob]
    repeat refine AW.seq ?_
    refine AW.reg ?_
    iterate 6 refine AOL.s1 (h := ?_)
    refine AOL.nil ?_
    refine AW.kq [4, 5, 6] (h := ?_)
    repeat refine AW.seq ?_
    refine AW.ret ?_
    refine ⟨_, [], rfl, HOk.nil _, ?_⟩
    rfl
  have hob : o = false := c_
  rw [if_neg (by rw [hob]; decide)]
  clear c_ hob ho_ cF
  refine AW.skip ?_
  repeat refine AW.seq ?_
  refine AW.reg ?_
  iterate 3 refine AOL.s1 (h := ?_)
  refine AOL.callD rfl (cA) (by kernel_rfl) rfl rfl (h := ?_)
  iterate 11 refine AOL.s1 (h := ?_)
  refine AOL.nil ?_
  refine AW.kq [2, 3, 4, 5, 7, 8, 9, 10, 11, 12, 13] (h := ?_)
  repeat refine AW.seq ?_
  refine AW.reg ?_
  iterate 2 refine AOL.s1 (h := ?_)
  refine AOL.nil ?_
  refine AW.kq [2, 3, 4, 5, 7, 8, 9, 10, 11, 12, 13, 58] (h := ?_)
  repeat refine AW.seq ?_
  refine AW.cond rfl (fun c_ => ?_) (fun c_ => ?_)
  · cases c_
  refine AW.skip ?_
  repeat refine AW.seq ?_
  refine AW.reg ?_
  iterate 1 refine AOL.s1 (h := ?_)
  refine AOL.callD rfl (cC) (by kernel_rfl) rfl rfl (h := ?_)
  iterate 1 refine AOL.s1 (h := ?_)
  refine AOL.kq [2, 3, 4, 5, 7, 10, 11, 12, 13, 64] (h := ?_)
  refine AOL.or 64 67 (os' := ?_) (x := ?_) (h1 := ?_) (h0 := ?_) (h := ?_)
  rotate_left 2
  iterate 2
    · intro hb_ K' hK; (iterate 3 refine AOL.s1 (h := ?_)); refine AOL.kq [2, 3, 4, 5, 7, 10, 11, 12, 13, 67] (h := ?_); exact hK
  refine AOL.nil ?_
  refine AW.kq [2, 3, 4, 5, 7, 10, 11, 12, 13, 67] (h := ?_)
  repeat refine AW.seq ?_
  refine AW.cond rfl (fun c_ => ?_) (fun c_ => ?_)
  · have hob : (zo || z == 0) = true := c_
    rw [if_pos hob]
    repeat refine AW.seq ?_
    refine AW.reg ?_
    iterate 6 refine AOL.s1 (h := ?_)
    refine AOL.nil ?_
    refine AW.kq [4, 5, 6] (h := ?_)
    repeat refine AW.seq ?_
    refine AW.ret ?_
    refine ⟨_, [], rfl, HOk.nil _, ?_⟩
    rfl
  have hob : (zo || z == 0) = false := c_
  rw [if_neg (by rw [hob]; decide)]
  clear c_ hob hz_ cC cA cS
  have cpa := groth_point_c (k := al) wal
  have cpb := groth_point_c (k := be) wbe
  have cpg := groth_point_c (k := ga) wga
  have cpd := groth_point_c (k := de) wde
  have wga2 : w64 (ipow 288230376287764481 ga 288230376287764479) := ipow_w wga.1 (by decide)
  have wde2 : w64 (ipow 288230376287764481 de 288230376287764479) := ipow_w wde.1 (by decide)
  have cga := modular_Pow_c (m := 288230376287764481) hR wga (e := 288230376287764479) (by decide)
  have cde := modular_Pow_c (m := 288230376287764481) hR wde (e := 288230376287764479) (by decide)
  unfold keysF pkc vkc
  rw [show timesP GG al = gT al from rfl] at cpa
  rw [show timesP GG be = gT be from rfl] at cpb
  rw [show timesP GG ga = gT ga from rfl] at cpg
  rw [show timesP GG de = gT de from rfl] at cpd
  generalize gT al = pa at *
  generalize gT be = pb at *
  generalize gT ga = pg at *
  generalize gT de = pd at *
  generalize ipow 288230376287764481 ga 288230376287764479 = gi at *
  generalize ipow 288230376287764481 de 288230376287764479 = di at *
  obtain ⟨pa0, pa1, pa2⟩ := pa
  obtain ⟨pb0, pb1, pb2⟩ := pb
  obtain ⟨pg0, pg1, pg2⟩ := pg
  obtain ⟨pd0, pd1, pd2⟩ := pd
  refine AW.skip ?_
  repeat refine AW.seq ?_
  refine AW.drw 11 [1224] (by kernel_rfl) (h := ?_)
  iterate 2 refine ADL.dm 1 (h := ?_)
  refine ADL.call rfl (cpa) (by kernel_rfl) rfl rfl (h := ?_)
  iterate 2 refine ADL.dm 1 (h := ?_)
  refine ADL.call rfl (cpb) (by kernel_rfl) rfl rfl (h := ?_)
  iterate 2 refine ADL.dm 1 (h := ?_)
  refine ADL.call rfl (cpd) (by kernel_rfl) rfl rfl (h := ?_)
  iterate 2 refine ADL.dm 1 (h := ?_)
  refine ADL.done hmix rfl rfl (hT := ?_)
  iterate 1 refine AOL.s1 (h := ?_)
  refine AOL.nil ?_
  refine AW.kq [2, 3, 4, 5, 7, 10, 11, 12, 13, 14] (h := ?_)
  repeat refine AW.seq ?_
  refine AW.drw 11 [1240] (by kernel_rfl) (h := ?_)
  iterate 6 refine ADL.dm 1 (h := ?_)
  refine ADL.call rfl (cpg) (by kernel_rfl) rfl rfl (h := ?_)
  iterate 4 refine ADL.dm 1 (h := ?_)
  refine ADL.done hmix rfl rfl (hT := ?_)
  iterate 1 refine AOL.s1 (h := ?_)
  refine AOL.nil ?_
  refine AW.kq [2, 3, 4, 5, 7, 10, 11, 12, 13, 14, 15] (h := ?_)
  repeat refine AW.seq ?_
  refine AW.drw 5 [] (by kernel_rfl) (h := ?_)
  iterate 2 refine ADL.dm 1 (h := ?_)
  refine ADL.call rfl (cga) (by kernel_rfl) rfl rfl (h := ?_)
  iterate 2 refine ADL.dm 1 (h := ?_)
  refine ADL.done hmix rfl rfl (hT := ?_)
  refine AOL.callD rfl (cde) (by kernel_rfl) rfl rfl (h := ?_)
  iterate 2 refine AOL.s1 (h := ?_)
  refine AOL.nil ?_
  refine AW.kq [2, 3, 4, 5, 7, 10, 11, 12, 13, 14, 15, 16, 17] (h := ?_)
  clear cpa cpb cpg cpd cga cde
  repeat refine AW.seq ?_
  refine AW.reg ?_
  iterate 3 refine AOL.s1 (h := ?_)
  refine AOL.nil ?_
  refine AW.kq [2, 3, 4, 5, 7, 10, 11, 12, 13, 14, 15, 16, 17, 98, 99] (h := ?_)
  refine AW.blank 9001 32 (h := ?_)
  refine AW.blank 9002 32 (h := ?_)
  refine AW.blank 9003 32 (h := ?_)
  refine AW.blank 9004 32 (h := ?_)
  refine AW.wkh 1224 (cs' := [bo pa0, u pa1, u pa2, bo pb0, u pb1, u pb2, bo pd0, u pd1, u pd2] ++ [.ref 9001 0 0 3, .ref 9002 0 0 3, .ref 9003 0 0 3, .val (.slice none 0 0)]) rfl (@Wks.app [bo pa0, u pa1, u pa2, bo pb0, u pb1, u pb2, bo pd0, u pd1, u pd2] [bo pa0, u pa1, u pa2, bo pb0, u pb1, u pb2, bo pd0, u pd1, u pd2] _ _ (Wks.refl _) (Wks.cons (Wk.ref0 9001 3) (Wks.cons (Wk.ref0 9002 3) (Wks.cons (Wk.ref0 9003 3) (Wks.refl [.val (.slice none 0 0)])))) rfl) (fun h => by cases h) (h := ?_)
  refine AW.wkh 1240 (cs' := [bo pa0, u pa1, u pa2, bo pb0, u pb1, u pb2, bo pg0, u pg1, u pg2, bo pd0, u pd1, u pd2] ++ [.ref 9004 0 0 3]) rfl (@Wks.app [bo pa0, u pa1, u pa2, bo pb0, u pb1, u pb2, bo pg0, u pg1, u pg2, bo pd0, u pd1, u pd2] [bo pa0, u pa1, u pa2, bo pb0, u pb1, u pb2, bo pg0, u pg1, u pg2, bo pd0, u pd1, u pd2] _ _ (Wks.refl _) (Wks.cons (Wk.ref0 9004 3) Wks.nil) rfl) (fun h => by cases h) (h := ?_)
  repeat refine AW.seq ?_
  refine AW.block ?_
  repeat refine AW.seq ?_
  refine AW.loopK [2, 3, 4, 5, 7, 10, 11, 12, 13, 14, 15, 16, 17, 98, 99] (fun n' s => ∃ (j nI nL : Nat) (cA cB cI cL : List AV), s = ⟨187, [(2, .ptr 1032 0), (3, .ptr 1048 0), (4, .ptr 1064 0), (5, .ptr 1080 0), (7, i k), (10, .sl n (fm u1 A)), (11, .sl n (fm u1 B)), (12, .sl n (fm u1 C)), (13, u z), (14, .ptr 1224 0), (15, .ptr 1240 0), (16, u gi), (17, u di), (98, i n), (99, i j)],
      [(1032, ⟨24, true, [i n, i sp, slF rw_ sl_]⟩), (1048, ⟨27, true, [u al, u be, u ga, u de, u ta]⟩), (1064, ⟨35, true, zP⟩), (1080, ⟨37, true, zV⟩), (1224, ⟨35, true, [bo pa0, u pa1, u pa2, bo pb0, u pb1, u pb2, bo pd0, u pd1, u pd2, .ref 9001 0 j 3, .ref 9002 0 j 3, .ref 9003 0 nL 3, .val (.slice none 0 0)]⟩), (1240, ⟨37, true, [bo pa0, u pa1, u pa2, bo pb0, u pb1, u pb2, bo pg0, u pg1, u pg2, bo pd0, u pd1, u pd2, .ref 9004 0 nI 3]⟩), (9001, ⟨32, false, cA⟩), (9002, ⟨32, false, cB⟩), (9003, ⟨32, false, cL⟩), (9004, ⟨32, false, cI⟩)]⟩ ∧
      j ≤ n ∧ n' = n - j ∧ cA = fm ptc (aT A j) ∧ cB = fm ptc (aT B j) ∧ cI = fm ptc (iT sp al be gi A B C j) ∧ nI = (iT sp al be gi A B C j).length ∧ cL = fm ptc (lT sp al be di A B C j) ∧ nL = (lT sp al be di A B C j).length) n ?_ ?_
  · exact ⟨0, 0, 0, [], [], [], [], rfl, Nat.zero_le _, rfl, rfl, rfl, rfl, rfl, rfl, rfl⟩
  rintro n' s ⟨j, nI, nL, cA, cB, cI, cL, rfl, hj, rfl, hA, hB, hI, hnI, hL, hnL⟩
  have lcA : cA.length = j * 3 := by rw [hA, fm_len ptc_len, aT_len]
  have lcB : cB.length = j * 3 := by rw [hB, fm_len ptc_len, aT_len]
  have lcI : cI.length = nI * 3 := by rw [hI, fm_len ptc_len, hnI]
  have lcL : cL.length = nL * 3 := by rw [hL, fm_len ptc_len, hnL]
  have leI : nI ≤ j := by rw [hnI]; exact iT_le _ _ _ _ _ _ _ _
  have leL : nL ≤ j := by rw [hnL]; exact lT_le _ _ _ _ _ _ _ _
  replace hA := hid hA
  replace hB := hid hB
  replace hI := hid hI
  replace hL := hid hL
  replace hnI := hid hnI
  replace hnL := hid hnL
  repeat refine AW.seq ?_
  refine AW.reg ?_
  iterate 1 refine AOL.s1 (h := ?_)
  refine AOL.nil ?_
  refine AW.kq [2, 3, 4, 5, 7, 10, 11, 12, 13, 14, 15, 16, 17, 98, 99, 100] (h := ?_)
  repeat refine AW.seq ?_
  refine AW.cond rfl (fun c_ => ?_) (fun c_ => ?_)
  · have hjn : j < n := by have : (j:Int) < n := by simpa using c_
                           omega
    obtain ⟨a, ha, wa, da⟩ := at_nat (V := A) (n := j) (by omega) wA
    obtain ⟨b, hb, wb, db⟩ := at_nat (V := B) (n := j) (by omega) wB
    obtain ⟨c, hc, wc, dc⟩ := at_nat (V := C) (n := j) (by omega) wC
    have j0 : (0:Int) ≤ j := by omega
    have jn : (j:Int) < n := by omega
    have jw := incq hjn (by omega)
    have ⟨b1, b2, b3⟩ := appq (f := j) (by omega)
    have ⟨b4, b5, b6⟩ := appq (f := nI) (by omega)
    have ⟨b7, b8_, b9⟩ := appq (f := nL) (by omega)
    have cg := groth_point_c (k := a) wa
    have cg' := groth_point_c (k := b) wb
    have m1 := groth_mul_c wbe wa
    have m2 := groth_mul_c wal wb
    have s1 := groth_add_c (a := be * a % 288230376287764481) (b := al * b % 288230376287764481) (w64_r _) (w64_r _)
    have s2 := groth_add_c (a := (be * a % 288230376287764481 + al * b % 288230376287764481) % 288230376287764481) (b := c) (w64_r _) wc
    have hgA : A.getD j 0 = a := by rw [List.getD_eq_getElem?_getD, ha]; rfl
    have hgB : B.getD j 0 = b := by rw [List.getD_eq_getElem?_getD, hb]; rfl
    have hgC : C.getD j 0 = c := by rw [List.getD_eq_getElem?_getD, hc]; rfl
    have hA1 := aT_s A j
    have hB1 := aT_s B j
    rw [hgA] at hA1
    rw [hgB] at hB1
    have hu : uT al be A B C j = uF al be a b c := by unfold uT; rw [hgA, hgB, hgC]
    have wu : w64 (uF al be a b c) := w64_r _
    have m3 := groth_mul_c (a := uF al be a b c) (b := gi) wu wga2
    have m4 := groth_mul_c (a := uF al be a b c) (b := di) wu wde2
    have cg3 := groth_point_c (k := uF al be a b c * gi % 288230376287764481) (w64_r _)
    have cg4 := groth_point_c (k := uF al be a b c * di % 288230376287764481) (w64_r _)
    have eu : ((be * a % 288230376287764481 + al * b % 288230376287764481) % 288230376287764481 + c) % 288230376287764481 = uF al be a b c := rfl
    rw [eu] at s2
    rw [show timesP GG a = gT a from rfl] at cg
    rw [show timesP GG b = gT b from rfl] at cg'
    rw [show timesP GG (uF al be a b c * gi % 288230376287764481) = gT (uF al be a b c * gi % 288230376287764481) from rfl] at cg3
    rw [show timesP GG (uF al be a b c * di % 288230376287764481) = gT (uF al be a b c * di % 288230376287764481) from rfl] at cg4
    replace hu := hid hu
    clear hgA hgB hgC ha hb hc eu c_
    generalize gT a = g at *
    generalize gT b = h at *
    generalize uF al be a b c = x at *
    obtain ⟨g0, g1, g2⟩ := g
    obtain ⟨h0, h1, h2⟩ := h
    replace hA1 := hid hA1
    replace hB1 := hid hB1
    refine AW.skip ?_
    repeat refine AW.seq ?_
    refine AW.block ?_
    repeat refine AW.seq ?_
    refine AW.reg ?_
    iterate 2 refine AOL.s1 (h := ?_)
    refine AOL.nil ?_
    refine AW.kq [2, 3, 4, 5, 7, 10, 11, 12, 13, 14, 15, 16, 17, 18, 98, 99] (h := ?_)
    repeat refine AW.seq ?_
    refine AW.da 19 (by kernel_rfl) (h := ?_)
    iterate 6 refine ADP.d1 (h := ?_)
    refine ADP.call rfl (cg) (by kernel_rfl) rfl rfl (h := ?_)
    iterate 1 refine ADP.d1 (h := ?_)
    refine ADP.app 9001 (h := ?_)
    iterate 6 refine ADP.d1 (h := ?_)
    refine ADP.call rfl (cg') (by kernel_rfl) rfl rfl (h := ?_)
    iterate 1 refine ADP.d1 (h := ?_)
    refine ADP.app 9002 (h := ?_)
    iterate 1 refine ADP.d1 (h := ?_)
    refine ADP.done2 hmix (by kernel_rfl) (by kernel_rfl) rfl (hT := ?_)
    iterate 3 refine AOL.s1 (h := ?_)
    refine AOL.nil ?_
    refine AW.kq [2, 3, 4, 5, 7, 10, 11, 12, 13, 14, 15, 16, 17, 18, 98, 99] (h := ?_)
    repeat refine AW.seq ?_
    refine AW.drw 19 [] (by kernel_rfl) (h := ?_)
    iterate 6 refine ADL.dm 1 (h := ?_)
    refine ADL.call rfl (m1) (by kernel_rfl) rfl rfl (h := ?_)
    iterate 6 refine ADL.dm 1 (h := ?_)
    refine ADL.call rfl (m2) (by kernel_rfl) rfl rfl (h := ?_)
    refine ADL.call rfl (s1) (by kernel_rfl) rfl rfl (h := ?_)
    iterate 4 refine ADL.dm 1 (h := ?_)
    refine ADL.done hmix rfl rfl (hT := ?_)
    refine AOL.callD rfl (s2) (by kernel_rfl) rfl rfl (h := ?_)
    iterate 1 refine AOL.s1 (h := ?_)
    refine AOL.nil ?_
    refine AW.kq [2, 3, 4, 5, 7, 10, 11, 12, 13, 14, 15, 16, 17, 18, 19, 98, 99] (h := ?_)
    repeat refine AW.seq ?_
    refine AW.reg ?_
    iterate 4 refine AOL.s1 (h := ?_)
    refine AOL.nil ?_
    refine AW.kq [2, 3, 4, 5, 7, 10, 11, 12, 13, 14, 15, 16, 17, 19, 98, 99, 145] (h := ?_)
    repeat refine AW.seq ?_
    refine AW.cond rfl (fun d_ => ?_) (fun d_ => ?_)
    · have hd : (j:Int) ≤ sp := by simpa using d_
      have hIs := iT_s (p := sp) (al := al) (be := be) (gi := gi) (A := A) (B := B) (C := C) (j := j) hd
      have hLn := lT_n (p := sp) (al := al) (be := be) (di := di) (A := A) (B := B) (C := C) (j := j) hd
      have hu' : uT al be A B C j = x := hu
      rw [hu'] at hIs
      replace hIs := hid hIs
      replace hLn := hid hLn
      clear hu' d_ hd cg4 m4 hu
      generalize gT (x * gi % 288230376287764481) = y at *
      obtain ⟨y0, y1, y2⟩ := y
      repeat refine AW.seq ?_
      refine AW.drw 7 [] (by kernel_rfl) (h := ?_)
      iterate 4 refine ADL.dm 1 (h := ?_)
      refine ADL.call rfl (m3) (by kernel_rfl) rfl rfl (h := ?_)
      refine ADL.call rfl (cg3) (by kernel_rfl) rfl rfl (h := ?_)
      iterate 1 refine ADL.dm 1 (h := ?_)
      refine ADL.done hmix rfl rfl (hT := ?_)
      iterate 3 refine AOL.s1 (h := ?_)
      refine AOL.nil ?_
      repeat refine AW.seq ?_
      refine AW.reg ?_
      iterate 2 refine AOL.s1 (h := ?_)
      refine AOL.nil ?_
      have hA' : cA = _ := hA
      have hB' : cB = _ := hB
      have hI' : cI = _ := hI
      have hL' : cL = _ := hL
      have hnI' : nI = _ := hnI
      have hnL' : nL = _ := hnL
      have hA1' : aT A (j + 1) = _ := hA1
      have hB1' : aT B (j + 1) = _ := hB1
      have hIs' : iT sp al be gi A B C (j + 1) = _ := hIs
      have hLn' : lT sp al be di A B C (j + 1) = _ := hLn
      exact ⟨n - (j + 1), by omega, j + 1, nI + 1, nL, _, _, _, _, rfl, hjn, rfl, by rw [hA1', ← fm_snoc, hA'], by rw [hB1', ← fm_snoc, hB'], by rw [hIs', ← fm_snoc, hI'], by rw [hIs', List.length_append, hnI']; rfl, by rw [hLn', hL'], by rw [hLn', hnL']⟩
    have hd : ¬ (j:Int) ≤ sp := by simpa using d_
    have hIs := iT_n (p := sp) (al := al) (be := be) (gi := gi) (A := A) (B := B) (C := C) (j := j) hd
    have hLn := lT_s (p := sp) (al := al) (be := be) (di := di) (A := A) (B := B) (C := C) (j := j) hd
    have hu' : uT al be A B C j = x := hu
    rw [hu'] at hLn
    replace hIs := hid hIs
    replace hLn := hid hLn
    clear hu' d_ hd cg3 m3 hu
    generalize gT (x * di % 288230376287764481) = y at *
    obtain ⟨y0, y1, y2⟩ := y
    repeat refine AW.seq ?_
    refine AW.drw 7 [] (by kernel_rfl) (h := ?_)
    iterate 4 refine ADL.dm 1 (h := ?_)
    refine ADL.call rfl (m4) (by kernel_rfl) rfl rfl (h := ?_)
    refine ADL.call rfl (cg4) (by kernel_rfl) rfl rfl (h := ?_)
    iterate 1 refine ADL.dm 1 (h := ?_)
    refine ADL.done hmix rfl rfl (hT := ?_)
    iterate 3 refine AOL.s1 (h := ?_)
    refine AOL.nil ?_
    repeat refine AW.seq ?_
    refine AW.reg ?_
    iterate 2 refine AOL.s1 (h := ?_)
    refine AOL.nil ?_
    have hA' : cA = _ := hA
    have hB' : cB = _ := hB
    have hI' : cI = _ := hI
    have hL' : cL = _ := hL
    have hnI' : nI = _ := hnI
    have hnL' : nL = _ := hnL
    have hA1' : aT A (j + 1) = _ := hA1
    have hB1' : aT B (j + 1) = _ := hB1
    have hIs' : iT sp al be gi A B C (j + 1) = _ := hIs
    have hLn' : lT sp al be di A B C (j + 1) = _ := hLn
    exact ⟨n - (j + 1), by omega, j + 1, nI, nL + 1, _, _, _, _, rfl, hjn, rfl, by rw [hA1', ← fm_snoc, hA'], by rw [hB1', ← fm_snoc, hB'], by rw [hIs', hI'], by rw [hIs', hnI'], by rw [hLn', ← fm_snoc, hL'], by rw [hLn', List.length_append, hnL']; rfl⟩
  have hjn : j = n := by have : ¬ (j:Int) < n := by simpa using c_
                         omega
  subst hjn
  have eA : AV.sl j cA = pl (aT A j) := by
    have h : cA = _ := hA
    rw [h]; show _ = AV.sl (aT A j).length _; rw [aT_len]
  have eB : AV.sl j cB = pl (aT B j) := by
    have h : cB = _ := hB
    rw [h]; show _ = AV.sl (aT B j).length _; rw [aT_len]
  have eI : AV.sl nI cI = pl (iT sp al be gi A B C j) := by
    have h : cI = _ := hI
    have h' : nI = _ := hnI
    rw [h, h']
  have eL : AV.sl nL cL = pl (lT sp al be di A B C j) := by
    have h : cL = _ := hL
    have h' : nL = _ := hnL
    rw [h, h']
  rw [← eA, ← eB, ← eI, ← eL]
  have sA : sub 0 (j * 3) cA = cA := sub_all (Nat.le_of_eq lcA)
  have sB : sub 0 (j * 3) cB = cB := sub_all (Nat.le_of_eq lcB)
  have sI : sub 0 (nI * 3) cI = cI := sub_all (Nat.le_of_eq lcI)
  have sL : sub 0 (nL * 3) cL = cL := sub_all (Nat.le_of_eq lcL)
  obtain ⟨t1, t2⟩ := two_le hk
  have kn : ¬ (k:Int) < 0 := by omega
  have shi := shlk (k := k) (by omega)
  rw [Int.toNat_natCast] at shi
  have mz := groth_mul_c wz wde2
  generalize 2 ^ k = N at *
  have shm : IntKind.i64.wrap ((N:Int) - 1) = ((N - 1 : Nat) : Int) := by rw [wrapI_o (by omega) (by omega)]; omega
  have hM : N - 1 ≤ 4096 := by omega
  generalize N - 1 = M at *
  have wh : w64 (z * di % 288230376287764481) := w64_r _
  generalize z * di % 288230376287764481 = h0 at *
  clear eA eB eI eL hA hB hI hL hnI hnL lcA lcB lcI lcL leI leL c_ lA lB lC wA wB wC t1 t2
  repeat refine AW.seq ?_
  refine AW.exit ?_
  repeat (first | refine Kseq.ex ?_ | refine Kloop.ex ?_ | refine Kblock.miss (by decide) ?_)
  refine Kblock.hit ?_
  refine AW.kq [3, 4, 5, 7, 13, 14, 15, 17] (h := ?_)
  refine AW.fz 9001 rfl (fun h => by cases h) (h := ?_)
  refine AW.fz 9002 rfl (fun h => by cases h) (h := ?_)
  refine AW.fz 9003 rfl (fun h => by cases h) (h := ?_)
  refine AW.fz 9004 rfl (fun h => by cases h) (h := ?_)
  rw [sA, sB, sL, sI]
  refine AW.let 1032 (h := ?_)
  clear sA sB sL sI
  repeat refine AW.seq ?_
  refine AW.reg ?_
  iterate 2 refine AOL.s1 (h := ?_)
  refine AOL.callD rfl (mz) (by kernel_rfl) rfl rfl (h := ?_)
  iterate 1 refine AOL.s1 (h := ?_)
  refine AOL.nil ?_
  refine AW.kq [3, 4, 5, 7, 14, 15, 20] (h := ?_)
  repeat refine AW.seq ?_
  refine AW.reg ?_
  iterate 4 refine AOL.s1 (h := ?_)
  refine AOL.nil ?_
  refine AW.kq [3, 4, 5, 14, 15, 20, 170, 171] (h := ?_)
  clear shi shm kn mz
  refine AW.blank 9005 32 (h := ?_)
  have lMh := hL_len h0 ta M
  have eH : pl (hL h0 ta M) = AV.sl M (fm ptc (hL h0 ta M)) := by show AV.sl (hL h0 ta M).length _ = _; rw [lMh]
  rw [eH]
  clear eH lMh
  refine AW.wkh 1224 (cs' := [bo pa0, u pa1, u pa2, bo pb0, u pb1, u pb2, bo pd0, u pd1, u pd2, .sl j cA, .sl j cB, .sl nL cL] ++ [.ref 9005 0 0 3]) rfl (@Wks.app [bo pa0, u pa1, u pa2, bo pb0, u pb1, u pb2, bo pd0, u pd1, u pd2, .sl j cA, .sl j cB, .sl nL cL] [bo pa0, u pa1, u pa2, bo pb0, u pb1, u pb2, bo pd0, u pd1, u pd2, .sl j cA, .sl j cB, .sl nL cL] _ _ (Wks.refl _) (Wks.cons (Wk.ref0 9005 3) Wks.nil) rfl) (fun h => by cases h) (h := ?_)
  repeat refine AW.seq ?_
  refine AW.block ?_
  repeat refine AW.seq ?_
  refine AW.loopK [3, 4, 5, 14, 15, 20, 170, 171] (fun n' s => ∃ (q : Nat) (h : Int) (cH : List AV), s = ⟨187, [(3, .ptr 1048 0), (4, .ptr 1064 0), (5, .ptr 1080 0), (14, .ptr 1224 0), (15, .ptr 1240 0), (20, u h), (170, i M), (171, i q)],
      [(1048, ⟨27, true, [u al, u be, u ga, u de, u ta]⟩), (1064, ⟨35, true, zP⟩), (1080, ⟨37, true, zV⟩), (1224, ⟨35, true, [bo pa0, u pa1, u pa2, bo pb0, u pb1, u pb2, bo pd0, u pd1, u pd2, .sl j cA, .sl j cB, .sl nL cL, .ref 9005 0 q 3]⟩), (1240, ⟨37, true, [bo pa0, u pa1, u pa2, bo pb0, u pb1, u pb2, bo pg0, u pg1, u pg2, bo pd0, u pd1, u pd2, .sl nI cI]⟩), (9005, ⟨32, false, cH⟩)]⟩ ∧
      q ≤ M ∧ n' = M - q ∧ w64 h ∧ hT h0 ta q = h ∧ cH = fm ptc (hL h0 ta q)) M ?_ ?_
  · exact ⟨0, h0, [], rfl, Nat.zero_le _, rfl, wh, rfl, rfl⟩
  rintro n' s ⟨q, h, cH, rfl, hq, rfl, wh', hh, hH⟩
  have lcH : cH.length = q * 3 := by rw [hH, fm_len ptc_len, hL_len]
  replace hH := hid hH
  replace hh := hid hh
  repeat refine AW.seq ?_
  refine AW.reg ?_
  iterate 1 refine AOL.s1 (h := ?_)
  refine AOL.nil ?_
  refine AW.kq [3, 4, 5, 14, 15, 20, 170, 171, 172] (h := ?_)
  repeat refine AW.seq ?_
  refine AW.cond rfl (fun c_ => ?_) (fun c_ => ?_)
  · have hqM : q < M := by have : (q:Int) < M := by simpa using c_
                           omega
    have qw := incq hqM (by omega)
    have ⟨b1, b2, b3⟩ := appq (f := q) (by omega)
    have cg := groth_point_c (k := h) wh'
    have mh := groth_mul_c (a := h) (b := ta) wh' wta
    have hs := hL_s h0 ta q
    have hh' : hT h0 ta q = h := hh
    have hh2 : hT h0 ta (q + 1) = h * ta % 288230376287764481 := by show hT h0 ta q * ta % 288230376287764481 = _; rw [hh']
    rw [hh'] at hs
    have wn : w64 (h * ta % 288230376287764481) := w64_r _
    replace hs := hid hs
    replace hh2 := hid hh2
    clear hh' hh c_
    rw [show timesP GG h = gT h from rfl] at cg
    generalize gT h = y at *
    generalize h * ta % 288230376287764481 = h' at *
    obtain ⟨y0, y1, y2⟩ := y
    refine AW.skip ?_
    repeat refine AW.seq ?_
    refine AW.block ?_
    repeat refine AW.seq ?_
    refine AW.drw 5 [] (by kernel_rfl) (h := ?_)
    iterate 3 refine ADL.dm 1 (h := ?_)
    refine ADL.call rfl (cg) (by kernel_rfl) rfl rfl (h := ?_)
    iterate 1 refine ADL.dm 1 (h := ?_)
    refine ADL.done hmix rfl rfl (hT := ?_)
    iterate 3 refine AOL.s1 (h := ?_)
    refine AOL.nil ?_
    refine AW.kq [3, 4, 5, 14, 15, 20, 170, 171] (h := ?_)
    repeat refine AW.seq ?_
    refine AW.reg ?_
    iterate 3 refine AOL.s1 (h := ?_)
    refine AOL.callD rfl (mh) (by kernel_rfl) rfl rfl (h := ?_)
    iterate 1 refine AOL.s1 (h := ?_)
    refine AOL.nil ?_
    repeat refine AW.seq ?_
    refine AW.reg ?_
    iterate 2 refine AOL.s1 (h := ?_)
    refine AOL.nil ?_
    have hH' : cH = _ := hH
    have hs' : hL h0 ta (q + 1) = _ := hs
    exact ⟨M - (q + 1), by omega, q + 1, h', _, rfl, hqM, rfl, wn, hh2, by rw [hs', ← fm_snoc, hH']⟩
  have hqM : q = M := by have : ¬ (q:Int) < M := by simpa using c_
                         omega
  subst hqM
  have eH : fm ptc (hL h0 ta q) = cH := by
    have h' : cH = _ := hH
    exact h'.symm
  rw [eH]
  have sH : sub 0 (q * 3) cH = cH := sub_all (Nat.le_of_eq lcH)
  clear eH hH hh lcH c_
  repeat refine AW.seq ?_
  refine AW.exit ?_
  repeat (first | refine Kseq.ex ?_ | refine Kloop.ex ?_ | refine Kblock.miss (by decide) ?_)
  refine Kblock.hit ?_
  refine AW.kq [4, 5, 14, 15] (h := ?_)
  refine AW.fz 9005 rfl (fun h => by cases h) (h := ?_)
  rw [sH]
  clear sH
  repeat refine AW.seq ?_
  refine AW.dw [(2, 1064, ⟨35, true, [bo pa0, u pa1, u pa2, bo pb0, u pb1, u pb2, bo pd0, u pd1, u pd2, .sl j cA, .sl j cB, .sl nL cL, .sl q cH]⟩)] 3 [] (by kernel_rfl) (h := ?_)
  iterate 2 refine ADLW.d1 (h := ?_)
  refine ADLW.st (h := ?_)
  refine ADLW.fin hmix rfl rfl rfl rfl (hT := ?_)
  iterate 2 refine AOL.s1 (h := ?_)
  refine AOL.nil ?_
  refine AW.kq [4, 5, 6] (h := ?_)
  repeat refine AW.seq ?_
  refine AW.ret ?_
  refine ⟨_, [], rfl, HOk.nil _, ?_⟩
  rfl
end Go.Proofs.Ytdbpjegocmdplaa.E.M

