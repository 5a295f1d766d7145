/- Whether a proof holds: a contract over E. -/
import Derived.Test.YtdbpjegocmdplaaGroC
import Derived.Test.YtdbpjegocmdplaaProg
import Derived.KernelRfl
set_option linter.unusedVariables false
set_option linter.unusedSimpArgs false
set_option maxRecDepth 10000
open Go Go.Proofs.Ytdbpjegocmdplaa.E Go.Proofs
namespace Go.Proofs.Ytdbpjegocmdplaa.E.M
abbrev vkc (A B C D : P3) (I : List P3) : List AV := [bo A.1, u A.2.1, u A.2.2, bo B.1, u B.2.1, u B.2.2, bo C.1, u C.2.1, u C.2.2, bo D.1, u D.2.1, u D.2.2, pl I]
def inG (a : P3) : Bool := inP a.1 a.2.1 a.2.2
def negG (a : P3) : P3 := negP (sureP a.1 a.2.1 a.2.2)
theorem negG_pt (a : P3) : Pt (negG a) := negP_pt (sureP_pt _ _ _)
def eqF (A B C D i : P3) (a b c : P3) : AV := match prodV [a, negG A, negG i, negG c] [b, B, C, D] with
  | (_, false) => er 9
  | (e, true) => if e = (1, 0) then nil_ else er 9
def verF (A B C D : P3) (I : List P3) (V : List Int) (a b c : P3) : AV :=
  if (V.length : Int) ≠ (I.length : Int) - 1 ∨ V.any (fun v => decide (v ≥ 288230376287764481)) = true then er 1 else
  if (A :: B :: C :: D :: I).any (fun g => !inG g) = true then er 1 else
  if (!inG a || !inG b || !inG c) = true then er 3 else
  eqF A B C D (togF (I.headD (true, 0, 0)) I.tail V) a b c
theorem pl_tail (g : P3) (I : List P3) : ∀ H, aSlice Try.prog 33 H (.sl (I.length + 1) (fm ptc (g :: I))) (some (i 1)) none none = some (pl I) := by
  intro H
  have tfl := tfl
  have tf := tf
  have fl : (fm ptc I).length = I.length * 3 := fm_len ptc_len I
  have h0 : ((0:Int) ≤ 1) = True := by simp
  have h1 : ((1:Int) ≤ ((I.length + 1 : Nat) : Int)) = True := by simp; omega
  have e : (fm ptc (g :: I)).drop 3 = fm ptc I := rfl
  have n1 : Int.toNat 1 = 1 := rfl
  simp only [aSlice, tf, tfl, bnd, intOf?, h0, h1, and_self, Int.le_refl, if_true, Int.toNat_natCast, n1, Nat.one_mul, e, Nat.add_sub_cancel]
  rw [List.take_of_length_le (Nat.le_of_eq fl)]
set_option maxHeartbeats 16000000 in
theorem groth_Verify_c {A B C D : P3} {I : List P3} {V : List Int} {a b c : P3} (hA : wP3 A) (hB : wP3 B) (hC : wP3 C) (hD : wP3 D) (hI : ∀ g ∈ I, wP3 g) (lI : I.length < 1000000) (hV : wV V) (lV : V.length < 1000000000) (ha : wP3 a) (hb : wP3 b) (hc : wP3 c) : Fn Try.prog 11 [.agg (vkc A B C D I), ul V, pf a b c] [] (fun r h_ => r = verF A B C D I V a b c) := by
  refine Fn.enter Try.func11 Try.ntmps11 rfl (h := ?_)
  have tf := tf
  have ot_ : (false || true) = true := rfl
  have tfg := tfg
  have tfl := tfl
  have tfr := tfr
  have hl : IntKind.i64.wrap ((I.length : Int) - 1) = (I.length : Int) - 1 := wrapI_o (by omega) (by omega)
  have hG : Fn Try.prog 22 [ul V, .clo 35 []] [] (fun r _ => r = bo (V.any (fun v => decide (v ≥ 288230376287764481)))) := slices_ContainsFunc_uint64_uint64_c lV hV (by kernel_rfl) (fun v _ => groth_Verify_1_c)
  have hL : ∀ g ∈ A :: B :: C :: D :: I, wP3 g := by
    intro g hg
    simp only [List.mem_cons] at hg
    rcases hg with rfl | rfl | rfl | rfl | hg
    · exact hA
    · exact hB
    · exact hC
    · exact hD
    · exact hI g hg
  have hP : Fn Try.prog 36 [pl (A :: B :: C :: D :: I), .clo 37 []] [] (fun r _ => r = bo ((A :: B :: C :: D :: I).any (fun g => !inG g))) := slices_ContainsFunc_api_Pt_api_Pt_c (by simp only [List.length_cons]; omega) hL (by kernel_rfl) (fun v hv => groth_Verify_2_c hv)
  have hg : V.any (fun v => decide (v ≥ 288230376287764481)) = V.any (fun v => decide (v ≥ 288230376287764481)) := rfl
  unfold verF
  generalize V.any (fun v => decide (v ≥ 288230376287764481)) = x1 at *
  generalize (A :: B :: C :: D :: I).any (fun g => !inG g) = x2 at *
  have ia := curve_In_c (b := a.1) ha.1 ha.2
  have ib := curve_In_c (b := b.1) hb.1 hb.2
  have ic := curve_In_c (b := c.1) hc.1 hc.2
  rw [show inP a.1 a.2.1 a.2.2 = inG a from rfl] at ia
  rw [show inP b.1 b.2.1 b.2.2 = inG b from rfl] at ib
  rw [show inP c.1 c.2.1 c.2.2 = inG c from rfl] at ic
  have fl : (fm ptc I).length = I.length * 3 := fm_len ptc_len I
  have a1 : (4 + I.length) * 24 ≤ 140737488355328 := by omega
  have a2 : 4 + I.length ≤ 4611686018427387904 := by omega
  have hP' : Fn Try.prog 36 [.sl (4 + I.length) (sub 0 ((4 + I.length) * 3) (bo A.1 :: u A.2.1 :: u A.2.2 :: bo B.1 :: u B.2.1 :: u B.2.2 :: bo C.1 :: u C.2.1 :: u C.2.2 :: bo D.1 :: u D.2.1 :: u D.2.2 :: fm ptc I)), .clo 37 []] [] (fun r _ => r = bo x2) := by
    rw [sub_all (by simp only [List.length_cons, fl]; omega), Nat.add_comm]
    exact hP
  clear hL hg hP
  repeat refine AW.seq ?_
  refine AW.reg ?_
  iterate 3 refine AOL.s1 (h := ?_)
  refine AOL.nil ?_
  refine AW.kq [1, 3, 5] (h := ?_)
  repeat refine AW.seq ?_
  refine AW.reg ?_
  iterate 8 refine AOL.s1 (h := ?_)
  refine AOL.kq [1, 3, 5, 17] (h := ?_)
  refine AOL.or 17 20 (os' := ?_) (x := ?_) (h1 := ?_) (h0 := ?_) (h := ?_)
  rotate_left 2
  iterate 2
    · intro hb_ K' hK; (first | (iterate 3 refine AOL.s1 (h := ?_)) | ((iterate 1 refine AOL.s1 (h := ?_)); refine AOL.callD rfl (hG) (by kernel_rfl) rfl rfl (h := ?_); (iterate 1 refine AOL.s1 (h := ?_)))); refine AOL.kq [1, 3, 5, 20] (h := ?_); exact hK
  refine AOL.nil ?_
  refine AW.kq [1, 3, 5, 20] (h := ?_)
  repeat refine AW.seq ?_
  refine AW.cond rfl (fun c_ => ?_) (fun c_ => ?_)
  · have hf : ((V.length : Int) ≠ (I.length : Int) - 1 ∨ x1 = true) := by simpa using c_
    rw [if_pos hf]
    repeat refine AW.seq ?_
    refine AW.reg ?_
    iterate 2 refine AOL.s1 (h := ?_)
    refine AOL.nil ?_
    refine AW.kq [6] (h := ?_)
    repeat refine AW.seq ?_
    refine AW.ret ?_
    refine ⟨_, [], rfl, HOk.nil _, ?_⟩
    rfl
  have hf : ¬ ((V.length : Int) ≠ (I.length : Int) - 1 ∨ x1 = true) := by simpa using c_
  rw [if_neg hf]
  have hn : (V.length : Int) = (I.length : Int) - 1 := Classical.not_not.1 (fun h => hf (.inl h))
  clear hf c_ hl
  refine AW.skip ?_
  repeat refine AW.seq ?_
  refine AW.reg ?_
  iterate 12 refine AOL.s1 (h := ?_)
  refine AOL.fz 1480 rfl (fun h => by cases h) (h := ?_)
  refine AOL.callD rfl (hP') (by kernel_rfl) rfl rfl (h := ?_)
  refine AOL.nil ?_
  refine AW.kq [1, 3, 5, 34] (h := ?_)
  repeat refine AW.seq ?_
  refine AW.cond rfl (fun d_ => ?_) (fun d_ => ?_)
  · rw [if_pos d_]
    repeat refine AW.seq ?_
    refine AW.reg ?_
    iterate 2 refine AOL.s1 (h := ?_)
    refine AOL.nil ?_
    refine AW.kq [6] (h := ?_)
    repeat refine AW.seq ?_
    refine AW.ret ?_
    refine ⟨_, [], rfl, HOk.nil _, ?_⟩
    rfl
  rw [if_neg (by rw [d_]; decide)]
  clear d_
  refine AW.skip ?_
  repeat refine AW.seq ?_
  refine AW.reg ?_
  iterate 2 refine AOL.s1 (h := ?_)
  refine AOL.callD rfl (ia) (by kernel_rfl) rfl rfl (h := ?_)
  iterate 2 refine AOL.s1 (h := ?_)
  refine AOL.kq [1, 3, 5, 40] (h := ?_)
  refine AOL.or 40 45 (os' := ?_) (x := ?_) (h1 := ?_) (h0 := ?_) (h := ?_)
  rotate_left 2
  iterate 2
    · intro hb_ K' hK; (first | (iterate 5 refine AOL.s1 (h := ?_)) | ((iterate 2 refine AOL.s1 (h := ?_)); refine AOL.callD rfl (ib) (by kernel_rfl) rfl rfl (h := ?_); (iterate 2 refine AOL.s1 (h := ?_)))); refine AOL.kq [1, 3, 5, 45] (h := ?_); exact hK
  iterate 1 refine AOL.s1 (h := ?_)
  refine AOL.kq [1, 3, 5, 46] (h := ?_)
  refine AOL.or 46 51 (os' := ?_) (x := ?_) (h1 := ?_) (h0 := ?_) (h := ?_)
  rotate_left 2
  iterate 2
    · intro hb_ K' hK; (first | (iterate 5 refine AOL.s1 (h := ?_)) | ((iterate 2 refine AOL.s1 (h := ?_)); refine AOL.callD rfl (ic) (by kernel_rfl) rfl rfl (h := ?_); (iterate 2 refine AOL.s1 (h := ?_)))); refine AOL.kq [1, 3, 5, 51] (h := ?_); exact hK
  refine AOL.nil ?_
  refine AW.kq [1, 3, 5, 51] (h := ?_)
  repeat refine AW.seq ?_
  refine AW.cond rfl (fun e_ => ?_) (fun e_ => ?_)
  · rw [if_pos (by simpa using e_)]
    repeat refine AW.seq ?_
    refine AW.reg ?_
    iterate 2 refine AOL.s1 (h := ?_)
    refine AOL.nil ?_
    refine AW.kq [6] (h := ?_)
    repeat refine AW.seq ?_
    refine AW.ret ?_
    refine ⟨_, [], rfl, HOk.nil _, ?_⟩
    rfl
  rw [if_neg (by simpa using e_)]
  clear ia ib ic e_ hG hP'
  cases I with
  | nil => exfalso; simp only [List.length_nil] at hn; omega
  | cons g I =>
  have hg := hI g List.mem_cons_self
  have hI' : ∀ h ∈ I, wP3 h := fun h hh => hI h (List.mem_cons_of_mem _ hh)
  have hV' : V.length = I.length := by simp only [List.length_cons] at hn; omega
  have ct := groth_together_c (a := g) (L := I) hg hI' hV (by omega) lV
  clear hV' hn
  have wi := togF_w I V hg
  have l0 : (0:Int) < ((I.length + 1 : Nat) : Int) := by omega
  have l00 : (0:Int) ≤ 0 := Int.le_refl _
  have pt_ := pl_tail g I
  simp only [List.headD_cons, List.tail_cons]
  generalize togF g I V = i0 at *
  have nA := curve_Neg_c (b := A.1) hA.1 hA.2
  have nI := curve_Neg_c (b := i0.1) wi.1 wi.2
  have nC := curve_Neg_c (b := c.1) hc.1 hc.2
  rw [show negP (sureP A.1 A.2.1 A.2.2) = negG A from rfl] at nA
  rw [show negP (sureP i0.1 i0.2.1 i0.2.2) = negG i0 from rfl] at nI
  rw [show negP (sureP c.1 c.2.1 c.2.2) = negG c from rfl] at nC
  have w1 := (negG_pt A).w3
  have w2 := (negG_pt i0).w3
  have w3 := (negG_pt c).w3
  unfold eqF
  generalize negG A = A' at *
  generalize negG i0 = i' at *
  generalize negG c = c' at *
  have cP : Fn Try.prog 39 [.sl 4 [bo a.1, u a.2.1, u a.2.2, bo A'.1, u A'.2.1, u A'.2.2, bo i'.1, u i'.2.1, u i'.2.2, bo c'.1, u c'.2.1, u c'.2.2], .sl 4 [bo b.1, u b.2.1, u b.2.2, bo B.1, u B.2.1, u B.2.2, bo C.1, u C.2.1, u C.2.2, bo D.1, u D.2.1, u D.2.2]] [] (fun r _ => r = .tup [ee (prodV [a, A', i', c'] [b, B, C, D]).1, er_ (prodV [a, A', i', c'] [b, B, C, D]).2 1]) :=
    pair_Product_c (a := [a, A', i', c']) (q := [b, B, C, D]) (by intro g hg; simp only [List.mem_cons, List.not_mem_nil, or_false] at hg; rcases hg with rfl | rfl | rfl | rfl <;> assumption) (by intro g hg; simp only [List.mem_cons, List.not_mem_nil, or_false] at hg; rcases hg with rfl | rfl | rfl | rfl <;> assumption) (by simp only [List.length_cons, List.length_nil]; decide) (by simp only [List.length_cons, List.length_nil]; decide)
  generalize prodV [a, A', i', c'] [b, B, C, D] = p at *
  obtain ⟨⟨e1, e2⟩, o⟩ := p
  have q1 : (4:Nat) * 3 ≤ 16777216 := by decide
  have q2 : (4:Nat) ≤ 16777216 := by decide
  obtain ⟨i0a, i0b, i0c⟩ := i0
  have tfE := tfe
  have eqE_ := eqE
  cases o
  · have cP : Fn Try.prog 39 [.sl 4 [bo a.1, u a.2.1, u a.2.2, bo A'.1, u A'.2.1, u A'.2.2, bo i'.1, u i'.2.1, u i'.2.2, bo c'.1, u c'.2.1, u c'.2.2], .sl 4 [bo b.1, u b.2.1, u b.2.2, bo B.1, u B.2.1, u B.2.2, bo C.1, u C.2.1, u C.2.2, bo D.1, u D.2.1, u D.2.2]] [] (fun r _ => r = .tup [.agg [u e1, u e2], er 1]) := cP
    refine AW.skip ?_
    repeat refine AW.seq ?_
    refine AW.drw 10 [1112] (by kernel_rfl) (h := ?_)
    iterate 8 refine ADL.dm 1 (h := ?_)
    refine ADL.call rfl (ct) (by kernel_rfl) rfl rfl (h := ?_)
    iterate 1 refine ADL.dm 1 (h := ?_)
    refine ADL.done hmix rfl rfl (hT := ?_)
    iterate 1 refine AOL.s1 (h := ?_)
    refine AOL.nil ?_
    refine AW.kq [3, 5, 7] (h := ?_)
    repeat refine AW.seq ?_
    refine AW.db [(25, 1128, ⟨80, true, [u e1, u e2]⟩)] 26 [1128] (by kernel_rfl) (h := ?_)
    iterate 4 refine ADLB.d1 (h := ?_)
    refine ADLB.call rfl rfl (nA) (by kernel_rfl) rfl rfl (by simp only [List.cons_append, List.nil_append]; exact rfl) ?_
    iterate 1 refine ADLB.d1 (h := ?_)
    refine ADLB.call rfl rfl (nI) (by kernel_rfl) rfl rfl (by simp only [List.cons_append, List.nil_append]; exact rfl) ?_
    iterate 2 refine ADLB.d1 (h := ?_)
    refine ADLB.call rfl rfl (nC) (by kernel_rfl) rfl rfl (by simp only [List.cons_append, List.nil_append]; exact rfl) ?_
    iterate 10 refine ADLB.d1 (h := ?_)
    refine ADLB.call rfl rfl (cP) (by kernel_rfl) rfl rfl (by simp only [List.cons_append, List.nil_append]; exact rfl) ?_
    iterate 4 refine ADLB.d1 (h := ?_)
    refine ADLB.sb 24 (h := ?_)
    refine ADLB.fin hmix rfl rfl rfl rfl (hT := ?_)
    iterate 1 refine AOL.s1 (h := ?_)
    refine AOL.nil ?_
    refine AW.kq [8, 9] (h := ?_)
    repeat refine AW.seq ?_
    refine AW.reg ?_
    iterate 3 refine AOL.s1 (h := ?_)
    iterate 4 refine AOL.s1 (h := ?_)
    refine AOL.nil ?_
    refine AW.kq [92] (h := ?_)
    repeat refine AW.seq ?_
  
    refine AW.cond rfl (fun c_ => ?_) (fun c_ => ?_)
    rotate_left
    · cases c_
    repeat refine AW.seq ?_
    refine AW.reg ?_
    iterate 2 refine AOL.s1 (h := ?_)
    refine AOL.nil ?_
    refine AW.kq [6] (h := ?_)
    repeat refine AW.seq ?_
    refine AW.ret ?_
    refine ⟨_, [], rfl, HOk.nil _, ?_⟩
    rfl
  · have cP : Fn Try.prog 39 [.sl 4 [bo a.1, u a.2.1, u a.2.2, bo A'.1, u A'.2.1, u A'.2.2, bo i'.1, u i'.2.1, u i'.2.2, bo c'.1, u c'.2.1, u c'.2.2], .sl 4 [bo b.1, u b.2.1, u b.2.2, bo B.1, u B.2.1, u B.2.2, bo C.1, u C.2.1, u C.2.2, bo D.1, u D.2.1, u D.2.2]] [] (fun r _ => r = .tup [.agg [u e1, u e2], nil_]) := cP
    refine AW.skip ?_
    repeat refine AW.seq ?_
    refine AW.drw 10 [1112] (by kernel_rfl) (h := ?_)
    iterate 8 refine ADL.dm 1 (h := ?_)
    refine ADL.call rfl (ct) (by kernel_rfl) rfl rfl (h := ?_)
    iterate 1 refine ADL.dm 1 (h := ?_)
    refine ADL.done hmix rfl rfl (hT := ?_)
    iterate 1 refine AOL.s1 (h := ?_)
    refine AOL.nil ?_
    refine AW.kq [3, 5, 7] (h := ?_)
    repeat refine AW.seq ?_
    refine AW.db [(25, 1128, ⟨80, true, [u e1, u e2]⟩)] 26 [1128] (by kernel_rfl) (h := ?_)
    iterate 4 refine ADLB.d1 (h := ?_)
    refine ADLB.call rfl rfl (nA) (by kernel_rfl) rfl rfl (by simp only [List.cons_append, List.nil_append]; exact rfl) ?_
    iterate 1 refine ADLB.d1 (h := ?_)
    refine ADLB.call rfl rfl (nI) (by kernel_rfl) rfl rfl (by simp only [List.cons_append, List.nil_append]; exact rfl) ?_
    iterate 2 refine ADLB.d1 (h := ?_)
    refine ADLB.call rfl rfl (nC) (by kernel_rfl) rfl rfl (by simp only [List.cons_append, List.nil_append]; exact rfl) ?_
    iterate 10 refine ADLB.d1 (h := ?_)
    refine ADLB.call rfl rfl (cP) (by kernel_rfl) rfl rfl (by simp only [List.cons_append, List.nil_append]; exact rfl) ?_
    iterate 4 refine ADLB.d1 (h := ?_)
    refine ADLB.sb 24 (h := ?_)
    refine ADLB.fin hmix rfl rfl rfl rfl (hT := ?_)
    iterate 1 refine AOL.s1 (h := ?_)
    refine AOL.nil ?_
    refine AW.kq [8, 9] (h := ?_)
    repeat refine AW.seq ?_
    refine AW.reg ?_
    iterate 3 refine AOL.s1 (h := ?_)
    iterate 4 refine AOL.s1 (h := ?_)
    refine AOL.nil ?_
    refine AW.kq [92] (h := ?_)
    repeat refine AW.seq ?_
  
    refine AW.cond rfl (fun c_ => ?_) (fun c_ => ?_)
    · have hx : ¬ ((e1, e2) = ((1, 0) : Int × Int)) := by
        intro h
        simp only [Prod.mk.injEq] at h
        simp [h.1, h.2] at c_
      repeat refine AW.seq ?_
      refine AW.reg ?_
      iterate 2 refine AOL.s1 (h := ?_)
      refine AOL.nil ?_
      refine AW.kq [6] (h := ?_)
      repeat refine AW.seq ?_
      refine AW.ret ?_
      refine ⟨_, [], rfl, HOk.nil _, ?_⟩
      exact (if_neg hx).symm
    have hx : (e1, e2) = ((1, 0) : Int × Int) := by
      simp at c_
      simp only [Prod.mk.injEq]
      exact c_
    refine AW.skip ?_
    repeat refine AW.seq ?_
    refine AW.reg ?_
    iterate 1 refine AOL.s1 (h := ?_)
    refine AOL.nil ?_
    refine AW.kq [6] (h := ?_)
    repeat refine AW.seq ?_
    refine AW.ret ?_
    refine ⟨_, [], rfl, HOk.nil _, ?_⟩
    exact (if_pos hx).symm
end Go.Proofs.Ytdbpjegocmdplaa.E.M

