/- The statement GrothStays over E. -/
import Derived.Test.YtdbpjegocmdplaaGroJ
import Derived.Test.YtdbpjegocmdplaaProg
import Derived.KernelRfl
set_option linter.unusedVariables false
set_option linter.unusedSimpArgs false
set_option maxRecDepth 10000
open Go Go.Proofs.Ytdbpjegocmdplaa.E Go.Proofs
namespace Go.Proofs.Ytdbpjegocmdplaa.E.M
def smallG (s : Rk) : Bool := light14 s && (decide (s.v ≤ 12) || decide (s.v > 4096))
set_option maxHeartbeats 4000000 in
theorem obollaw15_small_c {s : Rk} : Fn Try.prog 8 [.agg (rk s)] [] (fun r _ => r = bo (smallG s)) := by
  have cl := obolref14_Light_c (s := s)
  unfold smallG
  refine Fn.enter Try.func8 Try.ntmps8 rfl (h := ?_)
  have tf := tf
  have tfr := tfr
  have ot_ : (false || true) = true := rfl
  have bt : (true == true) = true := rfl
  have ft : (false == true) = false := rfl
  have tf_ : (true == false) = false := rfl
  have ff : (false == false) = true := rfl
  generalize light14 s = l at *
  obtain ⟨sv, sp, sl_⟩ := s
  simp only
  repeat refine AW.seq ?_
  refine AW.reg ?_
  iterate 2 refine AOL.s1 (h := ?_)
  refine AOL.nil ?_
  refine AW.kq [1] (h := ?_)
  repeat refine AW.seq ?_
  refine AW.reg ?_
  iterate 1 refine AOL.s1 (h := ?_)
  refine AOL.callD rfl (cl) (by kernel_rfl) rfl rfl (h := ?_)
  iterate 1 refine AOL.s1 (h := ?_)
  refine AOL.nil ?_
  refine AW.kq [1, 3] (h := ?_)
  repeat refine AW.seq ?_
  cases l with
  | false =>
    refine AW.reg ?_
    iterate 12 refine AOL.s1 (h := ?_)
    refine AOL.nil ?_
    refine AW.kq [2] (h := ?_)
    repeat refine AW.seq ?_
    refine AW.ret ?_
    refine ⟨_, [], rfl, HOk.nil _, ?_⟩
    rfl
  | true =>
  cases hx : decide (sv ≤ 12) with
  | true =>
    refine AW.reg ?_
    iterate 12 refine AOL.s1 (h := ?_)
    refine AOL.nil ?_
    refine AW.kq [2] (h := ?_)
    repeat refine AW.seq ?_
    refine AW.ret ?_
    refine ⟨_, [], rfl, HOk.nil _, ?_⟩
    rfl
  | false =>
  cases hy : decide (sv > 4096) with
  | false =>
    refine AW.reg ?_
    iterate 12 refine AOL.s1 (h := ?_)
    refine AOL.nil ?_
    refine AW.kq [2] (h := ?_)
    repeat refine AW.seq ?_
    refine AW.ret ?_
    refine ⟨_, [], rfl, HOk.nil _, ?_⟩
    rfl
  | true =>
  refine AW.reg ?_
  iterate 12 refine AOL.s1 (h := ?_)
  refine AOL.nil ?_
  refine AW.kq [2] (h := ?_)
  repeat refine AW.seq ?_
  refine AW.ret ?_
  refine ⟨_, [], rfl, HOk.nil _, ?_⟩
  rfl
theorem small_light {s : Rk} (h : smallG s = true) : light14 s = true := by
  unfold smallG at h
  simp only [Bool.and_eq_true] at h
  exact h.1
theorem light14_len {s : Rk} (h : light14 s = true) : Len s := by
  unfold light14 at h
  simp only [Bool.and_eq_true] at h
  have h := h.1.1
  unfold lightF at h
  split at h
  · cases h
  · rename_i hl
    refine ⟨by omega, ?_⟩
    intro r hr
    have := List.all_eq_true.1 h r hr
    simp only [fewF, Bool.and_eq_true, decide_eq_true_eq] at this
    omega
/-- what Setup tells -/
theorem setF_kinds (s : Rk) (al be ga de ta : Int) : (∃ n : Int, setF s al be ga de ta = .tup [.agg zP, .agg zV, er n]) ∨ (chkF s = true ∧ zF (lg s.l.length) ta ≠ 0 ∧ ([al, be, ga, de, ta].any fun v => decide (v ≥ 288230376287764481)) = false ∧ ([al, be, ga, de, ta].any fun v => (0:Int) == v) = false ∧ setF s al be ga de ta = keysF s.v.toNat (lg s.l.length) s.p (atL Rw.a s ta) (atL Rw.b s ta) (atL Rw.c s ta) (zF (lg s.l.length) ta) al be ga de ta) := by
  unfold setF
  cases hc : chkF s with
  | false => exact .inl ⟨3, if_pos rfl⟩
  | true =>
    rw [if_neg (by decide)]
    cases h1 : ([al, be, ga, de, ta].any fun v => decide (v ≥ 288230376287764481)) with
    | true => exact .inl ⟨1, if_pos rfl⟩
    | false =>
      rw [if_neg (by decide)]
      cases h2 : ([al, be, ga, de, ta].any fun v => (0:Int) == v) with
      | true => exact .inl ⟨7, if_pos rfl⟩
      | false =>
        cases h3 : (zF (lg s.l.length) ta == 0) with
        | true => exact .inl ⟨7, if_pos rfl⟩
        | false =>
          rw [if_neg (by decide)]
          exact .inr ⟨rfl, by simpa using h3, rfl, rfl, rfl⟩
theorem verF_val (A B C D : P3) (I : List P3) (V : List Int) (a b c : P3) : ∃ ev, verF A B C D I V a b c = .val ev := by
  unfold verF
  split
  · exact ⟨_, rfl⟩
  split
  · exact ⟨_, rfl⟩
  split
  · exact ⟨_, rfl⟩
  unfold eqF
  split
  · exact ⟨_, rfl⟩
  · split
    · exact ⟨_, rfl⟩
    · exact ⟨_, rfl⟩
theorem ul_sub {V : List Int} {p : Nat} (hp : 1 + p ≤ V.length) : ∀ H, aSlice Try.prog 28 H (.sl V.length (fm u1 V)) (some (i 1)) (some (i ((1 + p : Nat) : Int))) none = some (ul ((V.drop 1).take p)) := by
  intro H
  have tf := tf
  have tfr := tfr
  have c1 : ((0:Int) ≤ 1) = True := by simp
  have c2 : ((1:Int) ≤ ((1 + p : Nat) : Int)) = True := by simp; omega
  have c3 : (((1 + p : Nat) : Int) ≤ V.length) = True := by simp; omega
  have n1 : Int.toNat 1 = 1 := rfl
  have e : (fm u1 V).drop 1 = fm u1 (V.drop 1) := by
    cases V <;> rfl
  have e2 : (fm u1 (V.drop 1)).take p = fm u1 ((V.drop 1).take p) := by
    have h2 : fm u1 (V.drop 1) = fm u1 ((V.drop 1).take p) ++ fm u1 ((V.drop 1).drop p) := by rw [← fm_app, List.take_append_drop]
    rw [h2, List.take_append_of_le_length (by rw [fml, List.length_take, List.length_drop]; omega), List.take_of_length_le (by rw [fml, List.length_take]; omega)]
  have l : ((V.drop 1).take p).length = p := by rw [List.length_take, List.length_drop]; omega
  simp only [aSlice, tf, tfr, bnd, intOf?, c1, c2, c3, and_self, if_true, Int.toNat_natCast, n1, Nat.mul_one, e, Nat.add_sub_cancel_left]
  rw [e2, ul_def, l]
theorem mem_gT {P : Nat → Bool} {f : Nat → Int} {n : Nat} : ∀ g ∈ (((List.range n).filter P).map fun t => gT (f t)), wP3 g := by
  intro g hg
  obtain ⟨t, _, rfl⟩ := List.mem_map.1 hg
  exact (gT_pt _).w3
theorem aT_w (A : List Int) (n : Nat) : ∀ g ∈ aT A n, wP3 g := by
  intro g hg
  obtain ⟨t, _, rfl⟩ := List.mem_map.1 hg
  exact (gT_pt _).w3
theorem hL_w (h ta : Int) (n : Nat) : ∀ g ∈ hL h ta n, wP3 g := by
  intro g hg
  obtain ⟨t, _, rfl⟩ := List.mem_map.1 hg
  exact (gT_pt _).w3
theorem range_le (p n : Nat) (hp : p < n) : ((List.range n).filter fun (t : Nat) => decide ((t : Int) ≤ (p : Int))) = List.range (p + 1) ∧ ((List.range n).filter fun (t : Nat) => !decide ((t : Int) ≤ (p : Int))) = (List.range (n - 1 - p)).map (· + (p + 1)) := by
  obtain ⟨q, rfl⟩ : ∃ q, n = (p + 1) + q := ⟨n - (p + 1), by omega⟩
  rw [List.range_add, List.filter_append, List.filter_append]
  have e : p + 1 + q - 1 - p = q := by omega
  rw [e]
  constructor
  · rw [List.filter_eq_self.2, List.filter_eq_nil_iff.2, List.append_nil]
    · intro a ha; obtain ⟨t, _, rfl⟩ := List.mem_map.1 ha; simp; omega
    · intro a ha; have := List.mem_range.1 ha; simp; omega
  · rw [List.filter_eq_nil_iff.2, List.filter_eq_self.2, List.nil_append]
    · apply List.map_congr_left; intro a _; omega
    · intro a ha; obtain ⟨t, _, rfl⟩ := List.mem_map.1 ha; simp; omega
    · intro a ha; have := List.mem_range.1 ha; simp; omega
theorem iT_len {p n : Nat} (hp : p < n) (al be gi : Int) (A B C : List Int) : (iT p al be gi A B C n).length = p + 1 := by
  unfold iT; rw [List.length_map, (range_le p n hp).1, List.length_range]
theorem lT_len {p n : Nat} (hp : p < n) (al be di : Int) (A B C : List Int) : (lT p al be di A B C n).length = n - 1 - p := by
  unfold lT; rw [List.length_map, (range_le p n hp).2, List.length_map, List.length_range]
set_option maxHeartbeats 8000000 in
theorem stays_g {s : Rk} {al be ga de ta : Int} {V : List Int} (h : (!smallG s || decide ((V.length : Int) > 5000)) = true) : Fn Try.prog 3 [.agg (rk s), .agg [u al, u be, u ga, u de, u ta], ul V] [] (fun r _ => r = bo true) := by
  have cu := obollaw15_up_c
  have csm := obollaw15_small_c (s := s)
  cases hs : smallG s with
  | false =>
    rw [hs] at csm
    refine Fn.enter Try.func3 Try.ntmps3 rfl (h := ?_)
    have tf := tf
    have tfr := tfr
    have tfl := tfl
    have tfg := tfg
    have eqPf := eqPf
    have ot_ : (false || true) = true := rfl
    have nt : (!true) = false := rfl
    have nf : (!false) = true := rfl
    have bt : (true == true) = true := rfl
    have ft : (false == true) = false := rfl
    have tf_ : (true == false) = false := rfl
    have ff : (false == false) = true := rfl
    repeat refine AW.seq ?_
    refine AW.reg ?_
    iterate 3 refine AOL.s1 (h := ?_)
    refine AOL.nil ?_
    refine AW.kq [2, 3, 4] (h := ?_)
    repeat refine AW.seq ?_
    refine AW.reg ?_
    refine AOL.callD rfl (cu) (by kernel_rfl) rfl rfl (h := ?_)
    iterate 1 refine AOL.s1 (h := ?_)
    refine AOL.nil ?_
    refine AW.kq [2, 3, 4, 7] (h := ?_)
    repeat refine AW.seq ?_
    refine AW.reg ?_
    iterate 1 refine AOL.s1 (h := ?_)
    refine AOL.callD rfl (csm) (by kernel_rfl) rfl rfl (h := ?_)
    iterate 1 refine AOL.s1 (h := ?_)
    refine AOL.nil ?_
    refine AW.kq [2, 3, 4, 7, 8] (h := ?_)
    repeat refine AW.seq ?_
    refine AW.reg ?_
    iterate 7 refine AOL.s1 (h := ?_)
    refine AOL.nil ?_
    refine AW.kq [2, 3, 4, 7, 29] (h := ?_)
    repeat refine AW.seq ?_
    refine AW.cond rfl (fun c_ => ?_) (fun c_ => ?_)
    · repeat refine AW.seq ?_
      refine AW.reg ?_
      iterate 2 refine AOL.s1 (h := ?_)
      refine AOL.nil ?_
      refine AW.kq [6] (h := ?_)
      repeat refine AW.seq ?_
      refine AW.ret ?_
      refine ⟨_, [], rfl, HOk.nil _, ?_⟩
      rfl
    cases c_
  | true =>
  rw [hs] at csm h
  have hd : decide ((V.length : Int) > 5000) = true := by simpa using h
  clear h
  refine Fn.enter Try.func3 Try.ntmps3 rfl (h := ?_)
  have tf := tf
  have tfr := tfr
  have tfl := tfl
  have tfg := tfg
  have eqPf := eqPf
  have ot_ : (false || true) = true := rfl
  have nt : (!true) = false := rfl
  have nf : (!false) = true := rfl
  have bt : (true == true) = true := rfl
  have ft : (false == true) = false := rfl
  have tf_ : (true == false) = false := rfl
  have ff : (false == false) = true := rfl
  repeat refine AW.seq ?_
  refine AW.reg ?_
  iterate 3 refine AOL.s1 (h := ?_)
  refine AOL.nil ?_
  refine AW.kq [2, 3, 4] (h := ?_)
  repeat refine AW.seq ?_
  refine AW.reg ?_
  refine AOL.callD rfl (cu) (by kernel_rfl) rfl rfl (h := ?_)
  iterate 1 refine AOL.s1 (h := ?_)
  refine AOL.nil ?_
  refine AW.kq [2, 3, 4, 7] (h := ?_)
  repeat refine AW.seq ?_
  refine AW.reg ?_
  iterate 1 refine AOL.s1 (h := ?_)
  refine AOL.callD rfl (csm) (by kernel_rfl) rfl rfl (h := ?_)
  iterate 1 refine AOL.s1 (h := ?_)
  refine AOL.nil ?_
  refine AW.kq [2, 3, 4, 7, 8] (h := ?_)
  repeat refine AW.seq ?_
  refine AW.reg ?_
  iterate 7 refine AOL.s1 (h := ?_)
  refine AOL.nil ?_
  refine AW.kq [2, 3, 4, 7, 29] (h := ?_)
  repeat refine AW.seq ?_
  refine AW.cond rfl (fun c_ => ?_) (fun c_ => ?_)
  · repeat refine AW.seq ?_
    refine AW.reg ?_
    iterate 2 refine AOL.s1 (h := ?_)
    refine AOL.nil ?_
    refine AW.kq [6] (h := ?_)
    repeat refine AW.seq ?_
    refine AW.ret ?_
    refine ⟨_, [], rfl, HOk.nil _, ?_⟩
    rfl
  cases c_
set_option maxHeartbeats 8000000 in
theorem stays_s {s : Rk} {al be ga de ta : Int} {V : List Int} {n : Int} (hs : smallG s = true) (hV : decide ((V.length : Int) > 5000) = false) (cs : Fn Try.prog 9 [.agg (rk s), .agg [u al, u be, u ga, u de, u ta]] [] (fun r _ => r = .tup [.agg zP, .agg zV, er n])) : Fn Try.prog 3 [.agg (rk s), .agg [u al, u be, u ga, u de, u ta], ul V] [] (fun r _ => r = bo true) := by
  have cu := obollaw15_up_c
  have csm := obollaw15_small_c (s := s)
  rw [hs] at csm
  refine Fn.enter Try.func3 Try.ntmps3 rfl (h := ?_)
  have tf := tf
  have tfr := tfr
  have tfl := tfl
  have tfg := tfg
  have eqPf := eqPf
  have ot_ : (false || true) = true := rfl
  have nt : (!true) = false := rfl
  have nf : (!false) = true := rfl
  have bt : (true == true) = true := rfl
  have ft : (false == true) = false := rfl
  have tf_ : (true == false) = false := rfl
  have ff : (false == false) = true := rfl
  repeat refine AW.seq ?_
  refine AW.reg ?_
  iterate 3 refine AOL.s1 (h := ?_)
  refine AOL.nil ?_
  refine AW.kq [2, 3, 4] (h := ?_)
  repeat refine AW.seq ?_
  refine AW.reg ?_
  refine AOL.callD rfl (cu) (by kernel_rfl) rfl rfl (h := ?_)
  iterate 1 refine AOL.s1 (h := ?_)
  refine AOL.nil ?_
  refine AW.kq [2, 3, 4, 7] (h := ?_)
  repeat refine AW.seq ?_
  refine AW.reg ?_
  iterate 1 refine AOL.s1 (h := ?_)
  refine AOL.callD rfl (csm) (by kernel_rfl) rfl rfl (h := ?_)
  iterate 1 refine AOL.s1 (h := ?_)
  refine AOL.nil ?_
  refine AW.kq [2, 3, 4, 7, 8] (h := ?_)
  repeat refine AW.seq ?_
  refine AW.reg ?_
  iterate 7 refine AOL.s1 (h := ?_)
  refine AOL.nil ?_
  refine AW.kq [2, 3, 4, 7, 29] (h := ?_)
  repeat refine AW.seq ?_
  refine AW.cond rfl (fun c_ => ?_) (fun c_ => ?_)
  · cases c_
  refine AW.skip ?_
  repeat refine AW.seq ?_
  refine AW.reg ?_
  iterate 2 refine AOL.s1 (h := ?_)
  refine AOL.callD rfl (cs) (by kernel_rfl) rfl rfl (h := ?_)
  iterate 9 refine AOL.s1 (h := ?_)
  refine AOL.nil ?_
  refine AW.kq [2, 3, 7, 9, 10, 11] (h := ?_)
  repeat refine AW.seq ?_
  refine AW.reg ?_
  iterate 2 refine AOL.s1 (h := ?_)
  refine AOL.nil ?_
  refine AW.kq [2, 3, 7, 9, 10, 39] (h := ?_)
  repeat refine AW.seq ?_
  refine AW.cond rfl (fun c_ => ?_) (fun c_ => ?_)
  · repeat refine AW.seq ?_
    refine AW.reg ?_
    iterate 2 refine AOL.s1 (h := ?_)
    refine AOL.nil ?_
    refine AW.kq [6] (h := ?_)
    repeat refine AW.seq ?_
    refine AW.ret ?_
    refine ⟨_, [], rfl, HOk.nil _, ?_⟩
    rfl
  cases c_
theorem eqPtg : eqT Try.prog 32 = some [.bool, .int, .int] := eqT_of (by kernel_rfl) (by kernel_rfl) (by kernel_rfl)
set_option maxHeartbeats 40000000 in
theorem stays_e1 {s : Rk} {al be ga de ta : Int} {V : List Int} {n : Int} {A B C D a b c : P3} {LA LB LL LH LI : List P3} (hs : smallG s = true) (hV : decide ((V.length : Int) > 5000) = false) (lA : LA.length ≤ 4096) (cs : Fn Try.prog 9 [.agg (rk s), .agg [u al, u be, u ga, u de, u ta]] [] (fun r _ => r = .tup [.agg (pkc A B D LA LB LL LH), .agg (vkc A B C D LI), nil_]))
    (cp : Fn Try.prog 10 [.agg (pkc A B D LA LB LL LH), .agg (rk s), ul V, u 1, u 2] [] (fun r _ => r = .tup [pf a b c, er n])) : Fn Try.prog 3 [.agg (rk s), .agg [u al, u be, u ga, u de, u ta], ul V] [] (fun r _ => r = bo true) := by
  have cu := obollaw15_up_c
  have csm := obollaw15_small_c (s := s)
  rw [hs] at csm
  have lV : V.length ≤ 5000 := by simp only [decide_eq_false_iff_not] at hV; omega
  obtain ⟨sv, sp, sl_⟩ := s
  obtain ⟨A0, A1, A2⟩ := A
  obtain ⟨B0, B1, B2⟩ := B
  obtain ⟨C0, C1, C2⟩ := C
  obtain ⟨D0, D1, D2⟩ := D
  obtain ⟨a0, a1, a2⟩ := a
  obtain ⟨b0, b1, b2⟩ := b
  obtain ⟨c0, c1, c2⟩ := c
  have f1 : (fm ptc LA).length = LA.length * 3 := fm_len ptc_len LA
  have f2 : (fm u1 V).length = V.length := fml V
  have g1 : LA.length * 24 ≤ 140737488355328 := by omega
  have g2 : LA.length ≤ 4611686018427387904 := by omega
  have g3 : V.length * 8 ≤ 140737488355328 := by omega
  have g4 : V.length ≤ 4611686018427387904 := by omega
  have s1 : sub 0 (LA.length * 3) (fm ptc LA) = fm ptc LA := sub_all (Nat.le_of_eq f1)
  have s2 : sub 0 (V.length * 1) (fm u1 V) = fm u1 V := sub_all (Nat.le_of_eq (by rw [f2, Nat.mul_one]))
  refine Fn.enter Try.func3 Try.ntmps3 rfl (h := ?_)
  have tf := tf
  have tfr := tfr
  have tfl := tfl
  have tfg := tfg
  have eqPf := eqPf
  have ot_ : (false || true) = true := rfl
  have nt : (!true) = false := rfl
  have nf : (!false) = true := rfl
  have bt : (true == true) = true := rfl
  have ft : (false == true) = false := rfl
  have tf_ : (true == false) = false := rfl
  have ff : (false == false) = true := rfl
  repeat refine AW.seq ?_
  refine AW.reg ?_
  iterate 3 refine AOL.s1 (h := ?_)
  refine AOL.nil ?_
  refine AW.kq [2, 3, 4] (h := ?_)
  repeat refine AW.seq ?_
  refine AW.reg ?_
  refine AOL.callD rfl (cu) (by kernel_rfl) rfl rfl (h := ?_)
  iterate 1 refine AOL.s1 (h := ?_)
  refine AOL.nil ?_
  refine AW.kq [2, 3, 4, 7] (h := ?_)
  repeat refine AW.seq ?_
  refine AW.reg ?_
  iterate 1 refine AOL.s1 (h := ?_)
  refine AOL.callD rfl (csm) (by kernel_rfl) rfl rfl (h := ?_)
  iterate 1 refine AOL.s1 (h := ?_)
  refine AOL.nil ?_
  refine AW.kq [2, 3, 4, 7, 8] (h := ?_)
  repeat refine AW.seq ?_
  refine AW.reg ?_
  iterate 7 refine AOL.s1 (h := ?_)
  refine AOL.nil ?_
  refine AW.kq [2, 3, 4, 7, 29] (h := ?_)
  repeat refine AW.seq ?_
  refine AW.cond rfl (fun c_ => ?_) (fun c_ => ?_)
  · cases c_
  refine AW.skip ?_
  repeat refine AW.seq ?_
  refine AW.reg ?_
  iterate 2 refine AOL.s1 (h := ?_)
  refine AOL.callD rfl (cs) (by kernel_rfl) rfl rfl (h := ?_)
  iterate 9 refine AOL.s1 (h := ?_)
  refine AOL.nil ?_
  refine AW.kq [2, 3, 7, 9, 10, 11] (h := ?_)
  repeat refine AW.seq ?_
  refine AW.reg ?_
  iterate 2 refine AOL.s1 (h := ?_)
  refine AOL.nil ?_
  refine AW.kq [2, 3, 7, 9, 10, 39] (h := ?_)
  repeat refine AW.seq ?_
  refine AW.cond rfl (fun c_ => ?_) (fun c_ => ?_)
  · cases c_
  refine AW.skip ?_
  repeat refine AW.seq ?_
  refine AW.reg ?_
  iterate 5 refine AOL.s1 (h := ?_)
  refine AOL.nil ?_
  refine AW.kq [2, 3, 7, 9, 10, 12] (h := ?_)
  repeat refine AW.seq ?_
  refine AW.reg ?_
  iterate 4 refine AOL.s1 (h := ?_)
  refine AOL.nil ?_
  refine AW.kq [2, 3, 7, 9, 10, 12, 13] (h := ?_)
  refine AW.fz 1656 rfl (fun h => by cases h) (h := ?_)
  refine AW.fz 1720 rfl (fun h => by cases h) (h := ?_)
  rw [s1, s2]
  clear s1 s2 f1 f2 g1 g2 g3 g4
  repeat refine AW.seq ?_
  refine AW.reg ?_
  iterate 3 refine AOL.s1 (h := ?_)
  refine AOL.callD rfl (cp) (by kernel_rfl) rfl rfl (h := ?_)
  iterate 6 refine AOL.s1 (h := ?_)
  refine AOL.nil ?_
  refine AW.kq [2, 3, 7, 9, 10, 12, 13, 14, 15] (h := ?_)
  repeat refine AW.seq ?_
  refine AW.reg ?_
  iterate 2 refine AOL.s1 (h := ?_)
  refine AOL.nil ?_
  refine AW.kq [2, 3, 7, 9, 10, 12, 13, 14, 15, 56] (h := ?_)
  repeat refine AW.seq ?_
  refine AW.cond rfl (fun d_ => ?_) (fun d_ => ?_)
  · cases d_
  refine AW.skip ?_
  repeat refine AW.seq ?_
  refine AW.reg ?_
  iterate 1 refine AOL.s1 (h := ?_)
  refine AOL.nil ?_
  refine AW.kq [2, 3, 7, 9, 12, 13, 14, 15, 16] (h := ?_)
  repeat refine AW.seq ?_
  refine AW.block ?_
  repeat refine AW.seq ?_
  refine AW.loopK [2, 3, 7, 9, 12, 13, 14, 15, 16] (fun n' s => ∃ (j : Nat), s = ⟨116, [(2, ul V), (3, .ptr 1048 0), (7, bo true), (9, .ptr 1144 0), (12, pl LA), (13, ul V), (14, .ptr 1224 0), (15, er n), (16, i j)], [(1048, ⟨24, true, [i sv, i sp, slF rw_ sl_]⟩), (1064, ⟨27, true, [u al, u be, u ga, u de, u ta]⟩), (1144, ⟨35, true, pkc (A0, A1, A2) (B0, B1, B2) (D0, D1, D2) LA LB LL LH⟩), (1160, ⟨37, true, vkc (A0, A1, A2) (B0, B1, B2) (C0, C1, C2) (D0, D1, D2) LI⟩), (1224, ⟨43, true, pfc (a0, a1, a2) (b0, b1, b2) (c0, c1, c2)⟩)]⟩ ∧ j ≤ V.length ∧ n' = V.length - j) V.length ?_ ?_
  · exact ⟨0, rfl, Nat.zero_le _, rfl⟩
  rintro n' s ⟨j, rfl, hj, rfl⟩
  repeat refine AW.seq ?_
  refine AW.reg ?_
  iterate 4 refine AOL.s1 (h := ?_)
  refine AOL.nil ?_
  refine AW.kq [2, 3, 7, 9, 12, 13, 14, 15, 16, 68] (h := ?_)
  repeat refine AW.seq ?_
  refine AW.cond rfl (fun c_ => ?_) (fun c_ => ?_)
  · have hjn : j < V.length := by have : (j:Int) < V.length := by simpa using c_
                                  omega
    obtain ⟨v, hv, dv⟩ : ∃ v, V[j]? = some v ∧ (fm u1 V).drop j = u v :: fm u1 (V.drop (j + 1)) := ⟨V[j], List.getElem?_eq_getElem hjn, by have := fm_at u1_len (L := V) (k := j) hjn; rw [Nat.mul_one] at this; exact this⟩
    have j0 : (0:Int) ≤ j := by omega
    have j1 : (j:Int) < V.length := by omega
    have jw := incq hjn (by omega)
    clear hv c_
    refine AW.skip ?_
    repeat refine AW.seq ?_
    refine AW.block ?_
    repeat refine AW.seq ?_
    refine AW.drw 8 [] (by kernel_rfl) (h := ?_)
    iterate 8 refine ADL.dm 1 (h := ?_)
    refine ADL.done hmix rfl rfl (hT := ?_)
    iterate 1 refine AOL.s1 (h := ?_)
    refine AOL.nil ?_
    refine AW.kq [2, 3, 7, 9, 12, 13, 14, 15, 16, 79] (h := ?_)
    repeat refine AW.seq ?_
    refine AW.cond rfl (fun d_ => ?_) (fun d_ => ?_)
    · cases d_
    refine AW.skip ?_
    repeat refine AW.seq ?_
    refine AW.reg ?_
    iterate 3 refine AOL.s1 (h := ?_)
    refine AOL.nil ?_
    exact ⟨V.length - (j + 1), by omega, j + 1, rfl, hjn, rfl⟩
  clear c_ hj
  repeat refine AW.seq ?_
  refine AW.exit ?_
  repeat (first | refine Kseq.ex ?_ | refine Kloop.ex ?_ | refine Kblock.miss (by decide) ?_)
  refine Kblock.hit ?_
  refine AW.kq [3, 7, 9, 12, 13, 14, 15] (h := ?_)
  repeat refine AW.seq ?_
  refine AW.reg ?_
  iterate 1 refine AOL.s1 (h := ?_)
  refine AOL.nil ?_
  refine AW.kq [3, 7, 9, 12, 13, 14, 15, 17] (h := ?_)
  repeat refine AW.seq ?_
  refine AW.block ?_
  repeat refine AW.seq ?_
  refine AW.loopK [3, 7, 9, 12, 13, 14, 15, 17] (fun n' s => ∃ (j : Nat), s = ⟨116, [(3, .ptr 1048 0), (7, bo true), (9, .ptr 1144 0), (12, pl LA), (13, ul V), (14, .ptr 1224 0), (15, er n), (17, i j)], [(1048, ⟨24, true, [i sv, i sp, slF rw_ sl_]⟩), (1064, ⟨27, true, [u al, u be, u ga, u de, u ta]⟩), (1144, ⟨35, true, pkc (A0, A1, A2) (B0, B1, B2) (D0, D1, D2) LA LB LL LH⟩), (1160, ⟨37, true, vkc (A0, A1, A2) (B0, B1, B2) (C0, C1, C2) (D0, D1, D2) LI⟩), (1224, ⟨43, true, pfc (a0, a1, a2) (b0, b1, b2) (c0, c1, c2)⟩)]⟩ ∧ j ≤ LA.length ∧ n' = LA.length - j) LA.length ?_ ?_
  · exact ⟨0, rfl, Nat.zero_le _, rfl⟩
  rintro n' s ⟨j, rfl, hj, rfl⟩
  repeat refine AW.seq ?_
  refine AW.reg ?_
  iterate 4 refine AOL.s1 (h := ?_)
  refine AOL.nil ?_
  refine AW.kq [3, 7, 9, 12, 13, 14, 15, 17, 83] (h := ?_)
  repeat refine AW.seq ?_
  refine AW.cond rfl (fun c_ => ?_) (fun c_ => ?_)
  · have hjn : j < LA.length := by have : (j:Int) < LA.length := by simpa using c_
                                   omega
    have dv := pl_at (L := LA) (List.getElem?_eq_getElem hjn)
    generalize LA[j] = g at *
    obtain ⟨g0, g1, g2⟩ := g
    have j0 : (0:Int) ≤ j := by omega
    have j1 : (j:Int) < LA.length := by omega
    have jw := incq hjn (by omega)
    have eqP_ := eqPtg
    clear c_
    refine AW.skip ?_
    repeat refine AW.seq ?_
    refine AW.block ?_
    repeat refine AW.seq ?_
    refine AW.drw 9 [] (by kernel_rfl) (h := ?_)
    iterate 9 refine ADL.dm 1 (h := ?_)
    refine ADL.done hmix rfl rfl (hT := ?_)
    iterate 1 refine AOL.s1 (h := ?_)
    refine AOL.nil ?_
    refine AW.kq [3, 7, 9, 12, 13, 14, 15, 17, 95] (h := ?_)
    repeat refine AW.seq ?_
    refine AW.cond rfl (fun d_ => ?_) (fun d_ => ?_)
    · cases d_
    refine AW.skip ?_
    repeat refine AW.seq ?_
    refine AW.reg ?_
    iterate 3 refine AOL.s1 (h := ?_)
    refine AOL.nil ?_
    exact ⟨LA.length - (j + 1), by omega, j + 1, rfl, hjn, rfl⟩
  clear c_ hj
  repeat refine AW.seq ?_
  refine AW.exit ?_
  repeat (first | refine Kseq.ex ?_ | refine Kloop.ex ?_ | refine Kblock.miss (by decide) ?_)
  refine Kblock.hit ?_
  refine AW.kq [3, 7, 9, 13, 14, 15] (h := ?_)
  repeat refine AW.seq ?_
  refine AW.reg ?_
  iterate 3 refine AOL.s1 (h := ?_)
  refine AOL.callD rfl (cp) (by kernel_rfl) rfl rfl (h := ?_)
  iterate 6 refine AOL.s1 (h := ?_)
  refine AOL.nil ?_
  refine AW.kq [7, 14, 15, 18, 19] (h := ?_)
  repeat refine AW.seq ?_
  refine AW.drw 11 [] (by kernel_rfl) (h := ?_)
  iterate 11 refine ADL.dm 1 (h := ?_)
  refine ADL.done hmix rfl rfl (hT := ?_)
  iterate 3 refine AOL.s1 (h := ?_)
  refine AOL.nil ?_
  refine AW.kq [6] (h := ?_)
  repeat refine AW.seq ?_
  refine AW.ret ?_
  refine ⟨_, [], rfl, HOk.nil _, ?_⟩
  rfl
set_option maxHeartbeats 40000000 in
theorem stays_e2 {s : Rk} {al be ga de ta : Int} {V : List Int} {k : Int} {A B C D a b c : P3} {LA LB LL LH LI : List P3} (hs : smallG s = true) (hV : decide ((V.length : Int) > 5000) = false) (lA : LA.length ≤ 4096) (cs : Fn Try.prog 9 [.agg (rk s), .agg [u al, u be, u ga, u de, u ta]] [] (fun r _ => r = .tup [.agg (pkc A B D LA LB LL LH), .agg (vkc A B C D LI), nil_]))
    (cp : Fn Try.prog 10 [.agg (pkc A B D LA LB LL LH), .agg (rk s), ul V, u 1, u 2] [] (fun r _ => r = .tup [pf a b c, spot k 8])) : Fn Try.prog 3 [.agg (rk s), .agg [u al, u be, u ga, u de, u ta], ul V] [] (fun r _ => r = bo true) := by
  have cu := obollaw15_up_c
  have csm := obollaw15_small_c (s := s)
  rw [hs] at csm
  have lV : V.length ≤ 5000 := by simp only [decide_eq_false_iff_not] at hV; omega
  obtain ⟨sv, sp, sl_⟩ := s
  obtain ⟨A0, A1, A2⟩ := A
  obtain ⟨B0, B1, B2⟩ := B
  obtain ⟨C0, C1, C2⟩ := C
  obtain ⟨D0, D1, D2⟩ := D
  obtain ⟨a0, a1, a2⟩ := a
  obtain ⟨b0, b1, b2⟩ := b
  obtain ⟨c0, c1, c2⟩ := c
  have f1 : (fm ptc LA).length = LA.length * 3 := fm_len ptc_len LA
  have f2 : (fm u1 V).length = V.length := fml V
  have g1 : LA.length * 24 ≤ 140737488355328 := by omega
  have g2 : LA.length ≤ 4611686018427387904 := by omega
  have g3 : V.length * 8 ≤ 140737488355328 := by omega
  have g4 : V.length ≤ 4611686018427387904 := by omega
  have s1 : sub 0 (LA.length * 3) (fm ptc LA) = fm ptc LA := sub_all (Nat.le_of_eq f1)
  have s2 : sub 0 (V.length * 1) (fm u1 V) = fm u1 V := sub_all (Nat.le_of_eq (by rw [f2, Nat.mul_one]))
  refine Fn.enter Try.func3 Try.ntmps3 rfl (h := ?_)
  have tf := tf
  have tfr := tfr
  have tfl := tfl
  have tfg := tfg
  have eqPf := eqPf
  have ot_ : (false || true) = true := rfl
  have nt : (!true) = false := rfl
  have nf : (!false) = true := rfl
  have bt : (true == true) = true := rfl
  have ft : (false == true) = false := rfl
  have tf_ : (true == false) = false := rfl
  have ff : (false == false) = true := rfl
  repeat refine AW.seq ?_
  refine AW.reg ?_
  iterate 3 refine AOL.s1 (h := ?_)
  refine AOL.nil ?_
  refine AW.kq [2, 3, 4] (h := ?_)
  repeat refine AW.seq ?_
  refine AW.reg ?_
  refine AOL.callD rfl (cu) (by kernel_rfl) rfl rfl (h := ?_)
  iterate 1 refine AOL.s1 (h := ?_)
  refine AOL.nil ?_
  refine AW.kq [2, 3, 4, 7] (h := ?_)
  repeat refine AW.seq ?_
  refine AW.reg ?_
  iterate 1 refine AOL.s1 (h := ?_)
  refine AOL.callD rfl (csm) (by kernel_rfl) rfl rfl (h := ?_)
  iterate 1 refine AOL.s1 (h := ?_)
  refine AOL.nil ?_
  refine AW.kq [2, 3, 4, 7, 8] (h := ?_)
  repeat refine AW.seq ?_
  refine AW.reg ?_
  iterate 7 refine AOL.s1 (h := ?_)
  refine AOL.nil ?_
  refine AW.kq [2, 3, 4, 7, 29] (h := ?_)
  repeat refine AW.seq ?_
  refine AW.cond rfl (fun c_ => ?_) (fun c_ => ?_)
  · cases c_
  refine AW.skip ?_
  repeat refine AW.seq ?_
  refine AW.reg ?_
  iterate 2 refine AOL.s1 (h := ?_)
  refine AOL.callD rfl (cs) (by kernel_rfl) rfl rfl (h := ?_)
  iterate 9 refine AOL.s1 (h := ?_)
  refine AOL.nil ?_
  refine AW.kq [2, 3, 7, 9, 10, 11] (h := ?_)
  repeat refine AW.seq ?_
  refine AW.reg ?_
  iterate 2 refine AOL.s1 (h := ?_)
  refine AOL.nil ?_
  refine AW.kq [2, 3, 7, 9, 10, 39] (h := ?_)
  repeat refine AW.seq ?_
  refine AW.cond rfl (fun c_ => ?_) (fun c_ => ?_)
  · cases c_
  refine AW.skip ?_
  repeat refine AW.seq ?_
  refine AW.reg ?_
  iterate 5 refine AOL.s1 (h := ?_)
  refine AOL.nil ?_
  refine AW.kq [2, 3, 7, 9, 10, 12] (h := ?_)
  repeat refine AW.seq ?_
  refine AW.reg ?_
  iterate 4 refine AOL.s1 (h := ?_)
  refine AOL.nil ?_
  refine AW.kq [2, 3, 7, 9, 10, 12, 13] (h := ?_)
  refine AW.fz 1656 rfl (fun h => by cases h) (h := ?_)
  refine AW.fz 1720 rfl (fun h => by cases h) (h := ?_)
  rw [s1, s2]
  clear s1 s2 f1 f2 g1 g2 g3 g4
  repeat refine AW.seq ?_
  refine AW.reg ?_
  iterate 3 refine AOL.s1 (h := ?_)
  refine AOL.callD rfl (cp) (by kernel_rfl) rfl rfl (h := ?_)
  iterate 6 refine AOL.s1 (h := ?_)
  refine AOL.nil ?_
  refine AW.kq [2, 3, 7, 9, 10, 12, 13, 14, 15] (h := ?_)
  repeat refine AW.seq ?_
  refine AW.reg ?_
  iterate 2 refine AOL.s1 (h := ?_)
  refine AOL.nil ?_
  refine AW.kq [2, 3, 7, 9, 10, 12, 13, 14, 15, 56] (h := ?_)
  repeat refine AW.seq ?_
  refine AW.cond rfl (fun d_ => ?_) (fun d_ => ?_)
  · cases d_
  refine AW.skip ?_
  repeat refine AW.seq ?_
  refine AW.reg ?_
  iterate 1 refine AOL.s1 (h := ?_)
  refine AOL.nil ?_
  refine AW.kq [2, 3, 7, 9, 12, 13, 14, 15, 16] (h := ?_)
  repeat refine AW.seq ?_
  refine AW.block ?_
  repeat refine AW.seq ?_
  refine AW.loopK [2, 3, 7, 9, 12, 13, 14, 15, 16] (fun n' s => ∃ (j : Nat), s = ⟨116, [(2, ul V), (3, .ptr 1048 0), (7, bo true), (9, .ptr 1144 0), (12, pl LA), (13, ul V), (14, .ptr 1224 0), (15, spot k 8), (16, i j)], [(1048, ⟨24, true, [i sv, i sp, slF rw_ sl_]⟩), (1064, ⟨27, true, [u al, u be, u ga, u de, u ta]⟩), (1144, ⟨35, true, pkc (A0, A1, A2) (B0, B1, B2) (D0, D1, D2) LA LB LL LH⟩), (1160, ⟨37, true, vkc (A0, A1, A2) (B0, B1, B2) (C0, C1, C2) (D0, D1, D2) LI⟩), (1224, ⟨43, true, pfc (a0, a1, a2) (b0, b1, b2) (c0, c1, c2)⟩)]⟩ ∧ j ≤ V.length ∧ n' = V.length - j) V.length ?_ ?_
  · exact ⟨0, rfl, Nat.zero_le _, rfl⟩
  rintro n' s ⟨j, rfl, hj, rfl⟩
  repeat refine AW.seq ?_
  refine AW.reg ?_
  iterate 4 refine AOL.s1 (h := ?_)
  refine AOL.nil ?_
  refine AW.kq [2, 3, 7, 9, 12, 13, 14, 15, 16, 68] (h := ?_)
  repeat refine AW.seq ?_
  refine AW.cond rfl (fun c_ => ?_) (fun c_ => ?_)
  · have hjn : j < V.length := by have : (j:Int) < V.length := by simpa using c_
                                  omega
    obtain ⟨v, hv, dv⟩ : ∃ v, V[j]? = some v ∧ (fm u1 V).drop j = u v :: fm u1 (V.drop (j + 1)) := ⟨V[j], List.getElem?_eq_getElem hjn, by have := fm_at u1_len (L := V) (k := j) hjn; rw [Nat.mul_one] at this; exact this⟩
    have j0 : (0:Int) ≤ j := by omega
    have j1 : (j:Int) < V.length := by omega
    have jw := incq hjn (by omega)
    clear hv c_
    refine AW.skip ?_
    repeat refine AW.seq ?_
    refine AW.block ?_
    repeat refine AW.seq ?_
    refine AW.drw 8 [] (by kernel_rfl) (h := ?_)
    iterate 8 refine ADL.dm 1 (h := ?_)
    refine ADL.done hmix rfl rfl (hT := ?_)
    iterate 1 refine AOL.s1 (h := ?_)
    refine AOL.nil ?_
    refine AW.kq [2, 3, 7, 9, 12, 13, 14, 15, 16, 79] (h := ?_)
    repeat refine AW.seq ?_
    refine AW.cond rfl (fun d_ => ?_) (fun d_ => ?_)
    · cases d_
    refine AW.skip ?_
    repeat refine AW.seq ?_
    refine AW.reg ?_
    iterate 3 refine AOL.s1 (h := ?_)
    refine AOL.nil ?_
    exact ⟨V.length - (j + 1), by omega, j + 1, rfl, hjn, rfl⟩
  clear c_ hj
  repeat refine AW.seq ?_
  refine AW.exit ?_
  repeat (first | refine Kseq.ex ?_ | refine Kloop.ex ?_ | refine Kblock.miss (by decide) ?_)
  refine Kblock.hit ?_
  refine AW.kq [3, 7, 9, 12, 13, 14, 15] (h := ?_)
  repeat refine AW.seq ?_
  refine AW.reg ?_
  iterate 1 refine AOL.s1 (h := ?_)
  refine AOL.nil ?_
  refine AW.kq [3, 7, 9, 12, 13, 14, 15, 17] (h := ?_)
  repeat refine AW.seq ?_
  refine AW.block ?_
  repeat refine AW.seq ?_
  refine AW.loopK [3, 7, 9, 12, 13, 14, 15, 17] (fun n' s => ∃ (j : Nat), s = ⟨116, [(3, .ptr 1048 0), (7, bo true), (9, .ptr 1144 0), (12, pl LA), (13, ul V), (14, .ptr 1224 0), (15, spot k 8), (17, i j)], [(1048, ⟨24, true, [i sv, i sp, slF rw_ sl_]⟩), (1064, ⟨27, true, [u al, u be, u ga, u de, u ta]⟩), (1144, ⟨35, true, pkc (A0, A1, A2) (B0, B1, B2) (D0, D1, D2) LA LB LL LH⟩), (1160, ⟨37, true, vkc (A0, A1, A2) (B0, B1, B2) (C0, C1, C2) (D0, D1, D2) LI⟩), (1224, ⟨43, true, pfc (a0, a1, a2) (b0, b1, b2) (c0, c1, c2)⟩)]⟩ ∧ j ≤ LA.length ∧ n' = LA.length - j) LA.length ?_ ?_
  · exact ⟨0, rfl, Nat.zero_le _, rfl⟩
  rintro n' s ⟨j, rfl, hj, rfl⟩
  repeat refine AW.seq ?_
  refine AW.reg ?_
  iterate 4 refine AOL.s1 (h := ?_)
  refine AOL.nil ?_
  refine AW.kq [3, 7, 9, 12, 13, 14, 15, 17, 83] (h := ?_)
  repeat refine AW.seq ?_
  refine AW.cond rfl (fun c_ => ?_) (fun c_ => ?_)
  · have hjn : j < LA.length := by have : (j:Int) < LA.length := by simpa using c_
                                   omega
    have dv := pl_at (L := LA) (List.getElem?_eq_getElem hjn)
    generalize LA[j] = g at *
    obtain ⟨g0, g1, g2⟩ := g
    have j0 : (0:Int) ≤ j := by omega
    have j1 : (j:Int) < LA.length := by omega
    have jw := incq hjn (by omega)
    have eqP_ := eqPtg
    clear c_
    refine AW.skip ?_
    repeat refine AW.seq ?_
    refine AW.block ?_
    repeat refine AW.seq ?_
    refine AW.drw 9 [] (by kernel_rfl) (h := ?_)
    iterate 9 refine ADL.dm 1 (h := ?_)
    refine ADL.done hmix rfl rfl (hT := ?_)
    iterate 1 refine AOL.s1 (h := ?_)
    refine AOL.nil ?_
    refine AW.kq [3, 7, 9, 12, 13, 14, 15, 17, 95] (h := ?_)
    repeat refine AW.seq ?_
    refine AW.cond rfl (fun d_ => ?_) (fun d_ => ?_)
    · cases d_
    refine AW.skip ?_
    repeat refine AW.seq ?_
    refine AW.reg ?_
    iterate 3 refine AOL.s1 (h := ?_)
    refine AOL.nil ?_
    exact ⟨LA.length - (j + 1), by omega, j + 1, rfl, hjn, rfl⟩
  clear c_ hj
  repeat refine AW.seq ?_
  refine AW.exit ?_
  repeat (first | refine Kseq.ex ?_ | refine Kloop.ex ?_ | refine Kblock.miss (by decide) ?_)
  refine Kblock.hit ?_
  refine AW.kq [3, 7, 9, 13, 14, 15] (h := ?_)
  repeat refine AW.seq ?_
  refine AW.reg ?_
  iterate 3 refine AOL.s1 (h := ?_)
  refine AOL.callD rfl (cp) (by kernel_rfl) rfl rfl (h := ?_)
  iterate 6 refine AOL.s1 (h := ?_)
  refine AOL.nil ?_
  refine AW.kq [7, 14, 15, 18, 19] (h := ?_)
  repeat refine AW.seq ?_
  refine AW.drw 11 [] (by kernel_rfl) (h := ?_)
  iterate 11 refine ADL.dm 1 (h := ?_)
  refine ADL.done hmix rfl rfl (hT := ?_)
  iterate 3 refine AOL.s1 (h := ?_)
  refine AOL.nil ?_
  refine AW.kq [6] (h := ?_)
  repeat refine AW.seq ?_
  refine AW.ret ?_
  refine ⟨_, [], rfl, HOk.nil _, ?_⟩
  rfl
set_option maxHeartbeats 40000000 in
theorem stays_ok {s : Rk} {al be ga de ta : Int} {V : List Int}  {A B C D a b c : P3} {LA LB LL LH LI : List P3} (hs : smallG s = true) (hV : decide ((V.length : Int) > 5000) = false) (lA : LA.length ≤ 4096) (cs : Fn Try.prog 9 [.agg (rk s), .agg [u al, u be, u ga, u de, u ta]] [] (fun r _ => r = .tup [.agg (pkc A B D LA LB LL LH), .agg (vkc A B C D LI), nil_]))
    (cp : Fn Try.prog 10 [.agg (pkc A B D LA LB LL LH), .agg (rk s), ul V, u 1, u 2] [] (fun r _ => r = .tup [pf a b c, nil_])) {p : Nat} {ev : Value} (hp : s.p = p) (hpV : 1 + p ≤ V.length) (cv : Fn Try.prog 11 [.agg (vkc A B C D LI), ul ((V.drop 1).take p), pf a b c] [] (fun r _ => r = .val ev)) : Fn Try.prog 3 [.agg (rk s), .agg [u al, u be, u ga, u de, u ta], ul V] [] (fun r _ => r = bo true) := by
  have cu := obollaw15_up_c
  have csm := obollaw15_small_c (s := s)
  rw [hs] at csm
  have lV : V.length ≤ 5000 := by simp only [decide_eq_false_iff_not] at hV; omega
  have dS := ul_sub hpV
  generalize (V.drop 1).take p = Vs at *
  have w3 : IntKind.i64.wrap (1 + (p:Int)) = ((1 + p : Nat) : Int) := by rw [wrapI_o (by omega) (by omega)]; omega
  obtain ⟨sv, sp, sl_⟩ := s
  simp only at hp
  subst hp
  obtain ⟨A0, A1, A2⟩ := A
  obtain ⟨B0, B1, B2⟩ := B
  obtain ⟨C0, C1, C2⟩ := C
  obtain ⟨D0, D1, D2⟩ := D
  obtain ⟨a0, a1, a2⟩ := a
  obtain ⟨b0, b1, b2⟩ := b
  obtain ⟨c0, c1, c2⟩ := c
  have f1 : (fm ptc LA).length = LA.length * 3 := fm_len ptc_len LA
  have f2 : (fm u1 V).length = V.length := fml V
  have g1 : LA.length * 24 ≤ 140737488355328 := by omega
  have g2 : LA.length ≤ 4611686018427387904 := by omega
  have g3 : V.length * 8 ≤ 140737488355328 := by omega
  have g4 : V.length ≤ 4611686018427387904 := by omega
  have s1 : sub 0 (LA.length * 3) (fm ptc LA) = fm ptc LA := sub_all (Nat.le_of_eq f1)
  have s2 : sub 0 (V.length * 1) (fm u1 V) = fm u1 V := sub_all (Nat.le_of_eq (by rw [f2, Nat.mul_one]))
  refine Fn.enter Try.func3 Try.ntmps3 rfl (h := ?_)
  have tf := tf
  have tfr := tfr
  have tfl := tfl
  have tfg := tfg
  have eqPf := eqPf
  have ot_ : (false || true) = true := rfl
  have nt : (!true) = false := rfl
  have nf : (!false) = true := rfl
  have bt : (true == true) = true := rfl
  have ft : (false == true) = false := rfl
  have tf_ : (true == false) = false := rfl
  have ff : (false == false) = true := rfl
  repeat refine AW.seq ?_
  refine AW.reg ?_
  iterate 3 refine AOL.s1 (h := ?_)
  refine AOL.nil ?_
  refine AW.kq [2, 3, 4] (h := ?_)
  repeat refine AW.seq ?_
  refine AW.reg ?_
  refine AOL.callD rfl (cu) (by kernel_rfl) rfl rfl (h := ?_)
  iterate 1 refine AOL.s1 (h := ?_)
  refine AOL.nil ?_
  refine AW.kq [2, 3, 4, 7] (h := ?_)
  repeat refine AW.seq ?_
  refine AW.reg ?_
  iterate 1 refine AOL.s1 (h := ?_)
  refine AOL.callD rfl (csm) (by kernel_rfl) rfl rfl (h := ?_)
  iterate 1 refine AOL.s1 (h := ?_)
  refine AOL.nil ?_
  refine AW.kq [2, 3, 4, 7, 8] (h := ?_)
  repeat refine AW.seq ?_
  refine AW.reg ?_
  iterate 7 refine AOL.s1 (h := ?_)
  refine AOL.nil ?_
  refine AW.kq [2, 3, 4, 7, 29] (h := ?_)
  repeat refine AW.seq ?_
  refine AW.cond rfl (fun c_ => ?_) (fun c_ => ?_)
  · cases c_
  refine AW.skip ?_
  repeat refine AW.seq ?_
  refine AW.reg ?_
  iterate 2 refine AOL.s1 (h := ?_)
  refine AOL.callD rfl (cs) (by kernel_rfl) rfl rfl (h := ?_)
  iterate 9 refine AOL.s1 (h := ?_)
  refine AOL.nil ?_
  refine AW.kq [2, 3, 7, 9, 10, 11] (h := ?_)
  repeat refine AW.seq ?_
  refine AW.reg ?_
  iterate 2 refine AOL.s1 (h := ?_)
  refine AOL.nil ?_
  refine AW.kq [2, 3, 7, 9, 10, 39] (h := ?_)
  repeat refine AW.seq ?_
  refine AW.cond rfl (fun c_ => ?_) (fun c_ => ?_)
  · cases c_
  refine AW.skip ?_
  repeat refine AW.seq ?_
  refine AW.reg ?_
  iterate 5 refine AOL.s1 (h := ?_)
  refine AOL.nil ?_
  refine AW.kq [2, 3, 7, 9, 10, 12] (h := ?_)
  repeat refine AW.seq ?_
  refine AW.reg ?_
  iterate 4 refine AOL.s1 (h := ?_)
  refine AOL.nil ?_
  refine AW.kq [2, 3, 7, 9, 10, 12, 13] (h := ?_)
  refine AW.fz 1656 rfl (fun h => by cases h) (h := ?_)
  refine AW.fz 1720 rfl (fun h => by cases h) (h := ?_)
  rw [s1, s2]
  clear s1 s2 f1 f2 g1 g2 g3 g4
  repeat refine AW.seq ?_
  refine AW.reg ?_
  iterate 3 refine AOL.s1 (h := ?_)
  refine AOL.callD rfl (cp) (by kernel_rfl) rfl rfl (h := ?_)
  iterate 6 refine AOL.s1 (h := ?_)
  refine AOL.nil ?_
  refine AW.kq [2, 3, 7, 9, 10, 12, 13, 14, 15] (h := ?_)
  repeat refine AW.seq ?_
  refine AW.reg ?_
  iterate 2 refine AOL.s1 (h := ?_)
  refine AOL.nil ?_
  refine AW.kq [2, 3, 7, 9, 10, 12, 13, 14, 15, 56] (h := ?_)
  repeat refine AW.seq ?_
  refine AW.midK [2, 3, 7, 9, 12, 13, 14, 15] (fun t => t = ⟨116, [(2, ul V), (3, .ptr 1048 0), (7, bo true), (9, .ptr 1144 0), (12, pl LA), (13, ul V), (14, .ptr 1224 0), (15, nil_)], [(1048, ⟨24, true, [i sv, i p, slF rw_ sl_]⟩), (1064, ⟨27, true, [u al, u be, u ga, u de, u ta]⟩), (1144, ⟨35, true, pkc (A0, A1, A2) (B0, B1, B2) (D0, D1, D2) LA LB LL LH⟩), (1160, ⟨37, true, vkc (A0, A1, A2) (B0, B1, B2) (C0, C1, C2) (D0, D1, D2) LI⟩), (1224, ⟨43, true, pfc (a0, a1, a2) (b0, b1, b2) (c0, c1, c2)⟩)]⟩) ?_ ?_
  · refine AW.cond rfl (fun d_ => ?_) (fun d_ => ?_)
    · repeat refine AW.seq ?_
      refine AW.drw 7 [] (by kernel_rfl) (h := ?_)
      iterate 7 refine ADL.dm 1 (h := ?_)
      refine ADL.done hmix rfl rfl (hT := ?_)
      refine AOL.callD rfl (cv) (by kernel_rfl) rfl rfl (h := ?_)
      refine AOL.nil ?_
      rfl
    cases d_
  rintro t rfl
  repeat refine AW.seq ?_
  refine AW.reg ?_
  iterate 1 refine AOL.s1 (h := ?_)
  refine AOL.nil ?_
  refine AW.kq [2, 3, 7, 9, 12, 13, 14, 15, 16] (h := ?_)
  repeat refine AW.seq ?_
  refine AW.block ?_
  repeat refine AW.seq ?_
  refine AW.loopK [2, 3, 7, 9, 12, 13, 14, 15, 16] (fun n' s => ∃ (j : Nat), s = ⟨116, [(2, ul V), (3, .ptr 1048 0), (7, bo true), (9, .ptr 1144 0), (12, pl LA), (13, ul V), (14, .ptr 1224 0), (15, nil_), (16, i j)], [(1048, ⟨24, true, [i sv, i p, slF rw_ sl_]⟩), (1064, ⟨27, true, [u al, u be, u ga, u de, u ta]⟩), (1144, ⟨35, true, pkc (A0, A1, A2) (B0, B1, B2) (D0, D1, D2) LA LB LL LH⟩), (1160, ⟨37, true, vkc (A0, A1, A2) (B0, B1, B2) (C0, C1, C2) (D0, D1, D2) LI⟩), (1224, ⟨43, true, pfc (a0, a1, a2) (b0, b1, b2) (c0, c1, c2)⟩)]⟩ ∧ j ≤ V.length ∧ n' = V.length - j) V.length ?_ ?_
  · exact ⟨0, rfl, Nat.zero_le _, rfl⟩
  rintro n' s ⟨j, rfl, hj, rfl⟩
  repeat refine AW.seq ?_
  refine AW.reg ?_
  iterate 4 refine AOL.s1 (h := ?_)
  refine AOL.nil ?_
  refine AW.kq [2, 3, 7, 9, 12, 13, 14, 15, 16, 68] (h := ?_)
  repeat refine AW.seq ?_
  refine AW.cond rfl (fun c_ => ?_) (fun c_ => ?_)
  · have hjn : j < V.length := by have : (j:Int) < V.length := by simpa using c_
                                  omega
    obtain ⟨v, hv, dv⟩ : ∃ v, V[j]? = some v ∧ (fm u1 V).drop j = u v :: fm u1 (V.drop (j + 1)) := ⟨V[j], List.getElem?_eq_getElem hjn, by have := fm_at u1_len (L := V) (k := j) hjn; rw [Nat.mul_one] at this; exact this⟩
    have j0 : (0:Int) ≤ j := by omega
    have j1 : (j:Int) < V.length := by omega
    have jw := incq hjn (by omega)
    clear hv c_
    refine AW.skip ?_
    repeat refine AW.seq ?_
    refine AW.block ?_
    repeat refine AW.seq ?_
    refine AW.drw 8 [] (by kernel_rfl) (h := ?_)
    iterate 8 refine ADL.dm 1 (h := ?_)
    refine ADL.done hmix rfl rfl (hT := ?_)
    iterate 1 refine AOL.s1 (h := ?_)
    refine AOL.nil ?_
    refine AW.kq [2, 3, 7, 9, 12, 13, 14, 15, 16, 79] (h := ?_)
    repeat refine AW.seq ?_
    refine AW.cond rfl (fun d_ => ?_) (fun d_ => ?_)
    · cases d_
    refine AW.skip ?_
    repeat refine AW.seq ?_
    refine AW.reg ?_
    iterate 3 refine AOL.s1 (h := ?_)
    refine AOL.nil ?_
    exact ⟨V.length - (j + 1), by omega, j + 1, rfl, hjn, rfl⟩
  clear c_ hj
  repeat refine AW.seq ?_
  refine AW.exit ?_
  repeat (first | refine Kseq.ex ?_ | refine Kloop.ex ?_ | refine Kblock.miss (by decide) ?_)
  refine Kblock.hit ?_
  refine AW.kq [3, 7, 9, 12, 13, 14, 15] (h := ?_)
  repeat refine AW.seq ?_
  refine AW.reg ?_
  iterate 1 refine AOL.s1 (h := ?_)
  refine AOL.nil ?_
  refine AW.kq [3, 7, 9, 12, 13, 14, 15, 17] (h := ?_)
  repeat refine AW.seq ?_
  refine AW.block ?_
  repeat refine AW.seq ?_
  refine AW.loopK [3, 7, 9, 12, 13, 14, 15, 17] (fun n' s => ∃ (j : Nat), s = ⟨116, [(3, .ptr 1048 0), (7, bo true), (9, .ptr 1144 0), (12, pl LA), (13, ul V), (14, .ptr 1224 0), (15, nil_), (17, i j)], [(1048, ⟨24, true, [i sv, i p, slF rw_ sl_]⟩), (1064, ⟨27, true, [u al, u be, u ga, u de, u ta]⟩), (1144, ⟨35, true, pkc (A0, A1, A2) (B0, B1, B2) (D0, D1, D2) LA LB LL LH⟩), (1160, ⟨37, true, vkc (A0, A1, A2) (B0, B1, B2) (C0, C1, C2) (D0, D1, D2) LI⟩), (1224, ⟨43, true, pfc (a0, a1, a2) (b0, b1, b2) (c0, c1, c2)⟩)]⟩ ∧ j ≤ LA.length ∧ n' = LA.length - j) LA.length ?_ ?_
  · exact ⟨0, rfl, Nat.zero_le _, rfl⟩
  rintro n' s ⟨j, rfl, hj, rfl⟩
  repeat refine AW.seq ?_
  refine AW.reg ?_
  iterate 4 refine AOL.s1 (h := ?_)
  refine AOL.nil ?_
  refine AW.kq [3, 7, 9, 12, 13, 14, 15, 17, 83] (h := ?_)
  repeat refine AW.seq ?_
  refine AW.cond rfl (fun c_ => ?_) (fun c_ => ?_)
  · have hjn : j < LA.length := by have : (j:Int) < LA.length := by simpa using c_
                                   omega
    have dv := pl_at (L := LA) (List.getElem?_eq_getElem hjn)
    generalize LA[j] = g at *
    obtain ⟨g0, g1, g2⟩ := g
    have j0 : (0:Int) ≤ j := by omega
    have j1 : (j:Int) < LA.length := by omega
    have jw := incq hjn (by omega)
    have eqP_ := eqPtg
    clear c_
    refine AW.skip ?_
    repeat refine AW.seq ?_
    refine AW.block ?_
    repeat refine AW.seq ?_
    refine AW.drw 9 [] (by kernel_rfl) (h := ?_)
    iterate 9 refine ADL.dm 1 (h := ?_)
    refine ADL.done hmix rfl rfl (hT := ?_)
    iterate 1 refine AOL.s1 (h := ?_)
    refine AOL.nil ?_
    refine AW.kq [3, 7, 9, 12, 13, 14, 15, 17, 95] (h := ?_)
    repeat refine AW.seq ?_
    refine AW.cond rfl (fun d_ => ?_) (fun d_ => ?_)
    · cases d_
    refine AW.skip ?_
    repeat refine AW.seq ?_
    refine AW.reg ?_
    iterate 3 refine AOL.s1 (h := ?_)
    refine AOL.nil ?_
    exact ⟨LA.length - (j + 1), by omega, j + 1, rfl, hjn, rfl⟩
  clear c_ hj
  repeat refine AW.seq ?_
  refine AW.exit ?_
  repeat (first | refine Kseq.ex ?_ | refine Kloop.ex ?_ | refine Kblock.miss (by decide) ?_)
  refine Kblock.hit ?_
  refine AW.kq [3, 7, 9, 13, 14, 15] (h := ?_)
  repeat refine AW.seq ?_
  refine AW.reg ?_
  iterate 3 refine AOL.s1 (h := ?_)
  refine AOL.callD rfl (cp) (by kernel_rfl) rfl rfl (h := ?_)
  iterate 6 refine AOL.s1 (h := ?_)
  refine AOL.nil ?_
  refine AW.kq [7, 14, 15, 18, 19] (h := ?_)
  repeat refine AW.seq ?_
  refine AW.drw 11 [] (by kernel_rfl) (h := ?_)
  iterate 11 refine ADL.dm 1 (h := ?_)
  refine ADL.done hmix rfl rfl (hT := ?_)
  iterate 3 refine AOL.s1 (h := ?_)
  refine AOL.nil ?_
  refine AW.kq [6] (h := ?_)
  repeat refine AW.seq ?_
  refine AW.ret ?_
  refine ⟨_, [], rfl, HOk.nil _, ?_⟩
  rfl
theorem obollaw15_GrothStays_c {s : Rk} {al be ga de ta : Int} {V : List Int} (hW : wR s) (wal : w64 al) (wbe : w64 be) (wga : w64 ga) (wde : w64 de) (wta : w64 ta) (hV : wV V) : Fn Try.prog 3 [.agg (rk s), .agg [u al, u be, u ga, u de, u ta], ul V] [] (fun r _ => r = bo true) := by
  cases hg : (!smallG s || decide ((V.length : Int) > 5000)) with
  | true => exact stays_g hg
  | false =>
  simp only [Bool.or_eq_false_iff, Bool.not_eq_false'] at hg
  obtain ⟨hs, hv⟩ := hg
  have lV : V.length < 1000000000 := by simp only [decide_eq_false_iff_not] at hv; omega
  have hS := light14_len (small_light hs)
  have cs := groth_Setup_c hS wal wbe wga wde wta
  rcases setF_kinds s al be ga de ta with ⟨n, h⟩ | ⟨hc, _, _, _, h⟩
  · rw [h] at cs; exact stays_s hs hv cs
  rw [h] at cs
  obtain ⟨n, hn, n1, n2, p0, pn, hl⟩ := chk_vg hc
  obtain ⟨p, hp⟩ := Int.eq_ofNat_of_zero_le p0
  rw [hp] at pn
  have hpn : p < n := by omega
  have hvn : s.v.toNat = n := by omega
  unfold keysF at cs
  rw [hvn, hp] at cs
  rcases quo_c hS hW hV lV with ⟨e, he, cq⟩ | ⟨_, hh, _, cq⟩
  · have cp := fun (A B D : P3) (LA LB LL LH : List P3) => groth_Prove_e (A := A) (B := B) (D := D) (LA := LA) (LB := LB) (LL := LL) (LH := LH) (r := 1) (t := 2) he cq
    rcases he with ⟨m, rfl⟩ | ⟨m, rfl⟩
    · exact stays_e1 hs hv (by rw [aT_len]; exact n2) cs (cp _ _ _ _ _ _ _)
    · exact stays_e2 hs hv (by rw [aT_len]; exact n2) cs (cp _ _ _ _ _ _ _)
  · have hvl := (holds_len hh).1
    have lL := lT_len hpn al be (ipow 288230376287764481 de 288230376287764479) (atL Rw.a s ta) (atL Rw.b s ta) (atL Rw.c s ta)
    have lH := hL_len (zF (lg s.l.length) ta * ipow 288230376287764481 de 288230376287764479 % 288230376287764481) ta (2 ^ lg s.l.length - 1)
    have cp := groth_Prove_o (s := s) (V := V) (r := 1) (t := 2) hS hc cq (gT_pt al).w3 (gT_pt be).w3 (gT_pt de).w3 (aT_w (atL Rw.a s ta) n) (aT_w (atL Rw.b s ta) n) (LL := lT p al be (ipow 288230376287764481 de 288230376287764479) (atL Rw.a s ta) (atL Rw.b s ta) (atL Rw.c s ta) n) mem_gT (hL_w (zF (lg s.l.length) ta * ipow 288230376287764481 de 288230376287764479 % 288230376287764481) ta (2 ^ lg s.l.length - 1)) (by rw [aT_len]; omega) (by rw [aT_len]; omega) (by rw [lL, hp]; omega) lH hV (by omega) (hs_w s V) (by rw [lH]; exact hs_len V hl) (by decide) (by decide)
    rw [if_neg (by decide)] at cp
    obtain ⟨ev, hev⟩ := verF_val (gT al) (gT be) (gT ga) (gT de) (iT p al be (ipow 288230376287764481 ga 288230376287764479) (atL Rw.a s ta) (atL Rw.b s ta) (atL Rw.c s ta) n) ((V.drop 1).take p) (proA (gT al) (gT de) (aT (atL Rw.a s ta) n) V 1) (proA (gT be) (gT de) (aT (atL Rw.b s ta) n) V 2) (proC (gT de) (proA (gT al) (gT de) (aT (atL Rw.a s ta) n) V 1) (proA (gT be) (gT de) (aT (atL Rw.b s ta) n) V 2) (lT p al be (ipow 288230376287764481 de 288230376287764479) (atL Rw.a s ta) (atL Rw.b s ta) (atL Rw.c s ta) n) (hL (zF (lg s.l.length) ta * ipow 288230376287764481 de 288230376287764479 % 288230376287764481) ta (2 ^ lg s.l.length - 1)) s.p.toNat V (hsF s V) 1 2)
    have cv := groth_Verify_c (A := gT al) (B := gT be) (C := gT ga) (D := gT de) (I := iT p al be (ipow 288230376287764481 ga 288230376287764479) (atL Rw.a s ta) (atL Rw.b s ta) (atL Rw.c s ta) n) (V := (V.drop 1).take p) (a := proA (gT al) (gT de) (aT (atL Rw.a s ta) n) V 1) (b := proA (gT be) (gT de) (aT (atL Rw.b s ta) n) V 2) (c := proC (gT de) (proA (gT al) (gT de) (aT (atL Rw.a s ta) n) V 1) (proA (gT be) (gT de) (aT (atL Rw.b s ta) n) V 2) (lT p al be (ipow 288230376287764481 de 288230376287764479) (atL Rw.a s ta) (atL Rw.b s ta) (atL Rw.c s ta) n) (hL (zF (lg s.l.length) ta * ipow 288230376287764481 de 288230376287764479 % 288230376287764481) ta (2 ^ lg s.l.length - 1)) s.p.toNat V (hsF s V) 1 2)
      (gT_pt al).w3 (gT_pt be).w3 (gT_pt ga).w3 (gT_pt de).w3 mem_gT (by rw [iT_len hpn]; omega) (fun v hv => hV v (List.mem_of_mem_drop (List.mem_of_mem_take hv))) (by rw [List.length_take, List.length_drop]; omega) (addG_w _ _) (addG_w _ _) (addG_w _ _)
    rw [hev] at cv
    exact stays_ok hs hv (by rw [aT_len]; exact n2) cs cp hp (by omega) cv
end Go.Proofs.Ytdbpjegocmdplaa.E.M

