/- Prove's proofs, by a key that has as many points as it must: contracts over E. -/
import Derived.Test.YtdbpjegocmdplaaGroF
import Derived.Test.YtdbpjegocmdplaaProg
import Derived.KernelRfl
set_option linter.unusedVariables false
set_option linter.unusedSimpArgs false
set_option maxRecDepth 10000
open Go Go.Proofs.Ytdbpjegocmdplaa.E Go.Proofs
namespace Go.Proofs.Ytdbpjegocmdplaa.E.M
theorem mulRow_ge : ∀ (q : List Int) (L : List Int) (j : Nat) (a : Int) (t : Nat), j + q.length ≤ t → (mulRow L j a q)[t]? = L[t]?
  | [], L, j, a, t, h => rfl
  | b :: q, L, j, a, t, h => by
    simp only [List.length_cons] at h
    simp only [mulRow]
    rw [mulRow_ge q _ (j + 1) a t (by omega)]
    unfold addAt
    rw [List.getElem?_set_ne (by omega)]
theorem mulAll_ge : ∀ (p : List Int) (L : List Int) (j : Nat) (q : List Int) (t : Nat), j + p.length + q.length ≤ t + 1 → (mulAll L j p q)[t]? = L[t]?
  | [], L, j, q, t, h => rfl
  | a :: p, L, j, q, t, h => by
    simp only [List.length_cons] at h
    simp only [mulAll]
    rw [mulAll_ge p _ (j + 1) q t (by omega), mulRow_ge q L j a t (by omega)]
theorem short_mul_le {p q : List Int} (hp : 0 < p.length) : (shortL (mulL p q)).length ≤ p.length + q.length - 1 := by
  have hl := mulL_len p q
  have hg : (mulL p q)[p.length + q.length - 1]? = some 0 := by
    unfold mulL
    rw [mulAll_ge p _ 0 q _ (by omega), List.getElem?_replicate, if_pos (by omega)]
  have e : mulL p q = (mulL p q).take (p.length + q.length - 1) ++ [0] := by
    have h1 := List.take_append_drop (p.length + q.length - 1) (mulL p q)
    have h2 : (mulL p q).drop (p.length + q.length - 1) = [0] := by
      rw [List.drop_eq_getElem_cons (by omega), List.drop_eq_nil_of_le (by omega)]
      congr 1
      rw [List.getElem?_eq_getElem (by omega)] at hg
      exact Option.some.inj hg
    rw [h2] at h1
    exact h1.symm
  rw [e, shortL_snoc, if_pos rfl]
  exact Nat.le_trans (shortL_le _) (by rw [List.length_take]; omega)
/-- the quotient's numbers -/
def hsF (s : Rk) (V : List Int) : List Int := vanV (2 ^ lg s.l.length) (quoP s V)
theorem hs_len {s : Rk} (V : List Int) (hl : s.l.length ≤ 4096) : (hsF s V).length ≤ 2 ^ lg s.l.length - 1 := by
  obtain ⟨k12, kN⟩ := lg_le hl
  obtain ⟨t1, t2⟩ := two_le k12
  have l1 : (vanR (2 ^ lg s.l.length) (quoP s V)).2.length = (quoP s V).length - 2 ^ lg s.l.length := by
    unfold vanR; rw [(vanF_len _ _ _ _).2, List.length_replicate]
  have l2 := shortL_le (vanR (2 ^ lg s.l.length) (quoP s V)).2
  have l3 : (quoP s V).length ≤ 2 * 2 ^ lg s.l.length - 1 := by
    unfold quoP
    rw [subF_len _ _ _ (Nat.zero_le _), invF_len]
    have h1 := short_mul_le (p := invF (lg s.l.length) (colL V Rw.a (2 ^ lg s.l.length) s.l)) (q := invF (lg s.l.length) (colL V Rw.b (2 ^ lg s.l.length) s.l)) (by rw [invF_len]; omega)
    rw [invF_len, invF_len] at h1
    omega
  show (shortL (vanR (2 ^ lg s.l.length) (quoP s V)).2).length ≤ _
  omega
theorem hs_w (s : Rk) (V : List Int) : wV (hsF s V) := by
  unfold hsF vanV vanR
  refine shortL_w (vanF_w _ _ ?_ (rep_w _)).2
  intro v hv
  rw [List.mem_map] at hv
  obtain ⟨t, _, rfl⟩ := hv
  unfold redF
  exact w64_r _
theorem rows_og (V : List Int) : ∀ (l : List Rw) (k : Nat), rowsH V k l = nil_ ∨ ∃ j, rowsH V k l = spot j 8
  | [], k => .inl rfl
  | r :: l, k => by
    simp only [rowsH]
    split
    · exact rows_og V l (k + 1)
    · exact .inr ⟨_, rfl⟩
def errG (e : AV) : Prop := (∃ n, e = er n) ∨ ∃ k, e = spot k 8
theorem holds_og {s : Rk} (V : List Int) (hc : chkF s = true) : holdsF s V = nil_ ∨ errG (holdsF s V) := by
  unfold holdsF
  rw [if_pos hc]
  split
  · exact .inr (.inl ⟨1, rfl⟩)
  · rcases rows_og V s.l 0 with h | ⟨j, h⟩
    · exact .inl h
    · exact .inr (.inr ⟨_, h⟩)
theorem short_sub (L : List Int) : sub 0 ((shortL L).length * 1) (fm u1 L) = fm u1 (shortL L) := by
  obtain ⟨r, h⟩ := shortL_pre L
  have h2 : fm u1 L = fm u1 (shortL L) ++ fm u1 r := by rw [← fm_app, ← h]
  rw [h2, Nat.mul_one]
  unfold sub
  rw [List.drop_zero, List.take_append_of_le_length (by rw [fml]; omega), List.take_of_length_le (by rw [fml]; omega)]
theorem quo_ok {s : Rk} {V : List Int} (hS : Len s) (hW : wR s) (hV : wV V) (lV : V.length < 1000000000) (hc : chkF s = true) (he : holdsF s V = nil_) (hok : vanOk (2 ^ lg s.l.length) (quoP s V) = true) : Fn Try.prog 30 [.agg (rk s), ul V] [] (fun r _ => r = .tup [ul (hsF s V), nil_]) := by
  have cq := qap_Quotient_o hS hc hW hV lV he rfl rfl
  have l1 : (vanR (2 ^ lg s.l.length) (quoP s V)).2.length = (quoP s V).length - 2 ^ lg s.l.length := by
    unfold vanR; rw [(vanF_len _ _ _ _).2, List.length_replicate]
  by_cases hM : (quoP s V).length = 2 ^ lg s.l.length
  · have e0 : hsF s V = [] := by
      have l2 := shortL_le (vanR (2 ^ lg s.l.length) (quoP s V)).2
      exact List.eq_nil_of_length_eq_zero (by show (shortL (vanR (2 ^ lg s.l.length) (quoP s V)).2).length = 0; omega)
    rw [e0]
    refine cq.mono ?_
    rintro r h (⟨h1, _⟩ | ⟨_, _, h2⟩ | ⟨_, h1, _⟩)
    · rw [hok] at h1; cases h1
    · exact h2
    · omega
  · have hT : Fn Try.prog 30 [.agg (rk s), ul V] [] (Tells (.tup [.ref 1000 0 (vanV (2 ^ lg s.l.length) (quoP s V)).length 1, nil_]) [(1000, blk (vanR (2 ^ lg s.l.length) (quoP s V)).2)]) := by
      refine cq.mono ?_
      rintro r h (⟨h1, _⟩ | ⟨_, h1, _⟩ | ⟨_, _, h2⟩)
      · rw [hok] at h1; cases h1
      · exact absurd h1 hM
      · exact h2
    refine (Fn.frozen hT (frees_fm (fun _ => rfl) _)).mono ?_
    rintro r _ rfl
    show AV.tup [.sl (shortL (vanR (2 ^ lg s.l.length) (quoP s V)).2).length (sub 0 ((shortL (vanR (2 ^ lg s.l.length) (quoP s V)).2).length * 1) (fm u1 (vanR (2 ^ lg s.l.length) (quoP s V)).2)), nil_] = _
    rw [short_sub]
    rfl
/-- what Quotient tells -/
theorem quo_c {s : Rk} {V : List Int} (hS : Len s) (hW : wR s) (hV : wV V) (lV : V.length < 1000000000) :
    (∃ e, errG e ∧ Fn Try.prog 30 [.agg (rk s), ul V] [] (fun r _ => r = .tup [.val (.slice none 0 0), e])) ∨ (chkF s = true ∧ holdsF s V = nil_ ∧ vanOk (2 ^ lg s.l.length) (quoP s V) = true ∧ Fn Try.prog 30 [.agg (rk s), ul V] [] (fun r _ => r = .tup [ul (hsF s V), nil_])) := by
  cases hc : chkF s with
  | false => exact .inl ⟨er 3, .inl ⟨_, rfl⟩, qap_Quotient_e1 hS hc⟩
  | true =>
  rcases holds_og V hc with he | he
  · cases hok : vanOk (2 ^ lg s.l.length) (quoP s V) with
    | false =>
      have cq := qap_Quotient_o hS hc hW hV lV he rfl rfl
      refine .inl ⟨er 8, .inl ⟨_, rfl⟩, cq.mono ?_⟩
      rintro r h (⟨_, h2⟩ | ⟨h1, _⟩ | ⟨h1, _⟩)
      · exact h2
      · rw [hok] at h1; cases h1
      · rw [hok] at h1; cases h1
    | true => exact .inr ⟨rfl, he, rfl, quo_ok hS hW hV lV hc he hok⟩
  · exact .inl ⟨_, he, qap_Quotient_e2 hS hc hW hV lV rfl he⟩
theorem holds_len {s : Rk} {V : List Int} (h : holdsF s V = nil_) : (V.length : Int) = s.v ∧ chkF s = true := by
  unfold holdsF at h
  split at h
  · rename_i hc
    split at h
    · cases h
    · rename_i h2
      simp only [not_or, ne_eq, Decidable.not_not] at h2
      exact ⟨h2.1, hc⟩
  · cases h
theorem ul_drop {V : List Int} {k : Nat} (hk : k ≤ V.length) : ∀ H, aSlice Try.prog 28 H (.sl V.length (fm u1 V)) (some (i k)) none none = some (ul (V.drop k)) := by
  intro H
  have tf := tf
  have tfr := tfr
  have c1 : ((0:Int) ≤ (k : Int)) = True := by simp
  have c2 : ((k : Int) ≤ V.length) = True := by simp; omega
  have e : (fm u1 V).drop k = fm u1 (V.drop k) := by
    have h2 : fm u1 V = fm u1 (V.take k) ++ fm u1 (V.drop k) := by rw [← fm_app, List.take_append_drop]
    rw [h2, List.drop_append_of_le_length (by rw [fml, List.length_take]; omega), List.drop_of_length_le (by rw [fml, List.length_take]; omega), List.nil_append]
  have fl : (fm u1 (V.drop k)).length = V.length - k := by rw [fml, List.length_drop]
  have l : (V.drop k).length = V.length - k := List.length_drop
  simp only [aSlice, tf, tfr, bnd, intOf?, c1, c2, and_self, Int.le_refl, if_true, Int.toNat_natCast, Nat.mul_one, e]
  rw [List.take_of_length_le (Nat.le_of_eq fl), ul_def, l]
def proA (pa pd : P3) (LA : List P3) (V : List Int) (r : Int) : P3 := addG (togF pa LA V) (mulG pd r)
def proC (pd a b : P3) (LL LH : List P3) (p : Nat) (V H : List Int) (r t : Int) : P3 :=
  addG (addG (addG (togF (togF (true, 0, 0) LL (V.drop (1 + p))) LH H) (mulG a t)) (mulG b r)) (negG (mulG pd (r * t % 288230376287764481)))
abbrev pf0 : AV := pf (false, 0, 0) (false, 0, 0) (false, 0, 0)
set_option maxHeartbeats 8000000 in
theorem groth_Prove_e {s : Rk} {A B D : P3} {LA LB LL LH : List P3} {V : List Int} {r t : Int} {e : AV} (he : errG e) (cq : Fn Try.prog 30 [.agg (rk s), ul V] [] (fun r _ => r = .tup [.val (.slice none 0 0), e])) : Fn Try.prog 10 [.agg (pkc A B D LA LB LL LH), .agg (rk s), ul V, u r, u t] [] (fun r h_ => r = .tup [pf0, e]) := by
  refine Fn.enter Try.func10 Try.ntmps10 rfl (h := ?_)
  have tf := tf
  have tfr := tfr
  have tfl := tfl
  have tfg := tfg
  rcases he with ⟨n, rfl⟩ | ⟨n, rfl⟩
  · repeat refine AW.seq ?_
    refine AW.reg ?_
    iterate 4 refine AOL.s1 (h := ?_)
    refine AOL.nil ?_
    refine AW.kq [2, 3, 4, 5, 6, 10] (h := ?_)
    repeat refine AW.seq ?_
    refine AW.reg ?_
    iterate 2 refine AOL.s1 (h := ?_)
    refine AOL.callD rfl (cq) (by kernel_rfl) rfl rfl (h := ?_)
    iterate 5 refine AOL.s1 (h := ?_)
    refine AOL.nil ?_
    refine AW.kq [2, 3, 4, 5, 6, 10, 12, 13] (h := ?_)
    repeat refine AW.seq ?_
    refine AW.reg ?_
    iterate 2 refine AOL.s1 (h := ?_)
    refine AOL.nil ?_
    refine AW.kq [2, 3, 4, 5, 6, 10, 12, 13, 24] (h := ?_)
    repeat refine AW.seq ?_
    refine AW.cond rfl (fun c_ => ?_) (fun c_ => ?_)
    · repeat refine AW.seq ?_
      refine AW.reg ?_
      iterate 4 refine AOL.s1 (h := ?_)
      refine AOL.nil ?_
      refine AW.kq [10, 11] (h := ?_)
      repeat refine AW.seq ?_
      refine AW.ret ?_
      refine ⟨_, [], rfl, HOk.nil _, ?_⟩
      rfl
    cases c_
  · repeat refine AW.seq ?_
    refine AW.reg ?_
    iterate 4 refine AOL.s1 (h := ?_)
    refine AOL.nil ?_
    refine AW.kq [2, 3, 4, 5, 6, 10] (h := ?_)
    repeat refine AW.seq ?_
    refine AW.reg ?_
    iterate 2 refine AOL.s1 (h := ?_)
    refine AOL.callD rfl (cq) (by kernel_rfl) rfl rfl (h := ?_)
    iterate 5 refine AOL.s1 (h := ?_)
    refine AOL.nil ?_
    refine AW.kq [2, 3, 4, 5, 6, 10, 12, 13] (h := ?_)
    repeat refine AW.seq ?_
    refine AW.reg ?_
    iterate 2 refine AOL.s1 (h := ?_)
    refine AOL.nil ?_
    refine AW.kq [2, 3, 4, 5, 6, 10, 12, 13, 24] (h := ?_)
    repeat refine AW.seq ?_
    refine AW.cond rfl (fun c_ => ?_) (fun c_ => ?_)
    · repeat refine AW.seq ?_
      refine AW.reg ?_
      iterate 4 refine AOL.s1 (h := ?_)
      refine AOL.nil ?_
      refine AW.kq [10, 11] (h := ?_)
      repeat refine AW.seq ?_
      refine AW.ret ?_
      refine ⟨_, [], rfl, HOk.nil _, ?_⟩
      rfl
    cases c_
theorem addG_w (a b : P3) : wP3 (addG a b) := (addG_pt a b).w3
theorem mulG_w (a : P3) (k : Int) : wP3 (mulG a k) := (mulG_pt a k).w3
theorem negG_w (a : P3) : wP3 (negG a) := (negG_pt a).w3
theorem mul_cG {a : P3} {k : Int} (ha : wP3 a) (hk : w64 k) : Fn Try.prog 33 [pt a, u k] [] (fun r _ => r = pt (mulG a k)) := curve_Mul_c (b := a.1) ha.1 ha.2 hk
theorem add_cG {a b : P3} (ha : wP3 a) (hb : wP3 b) : Fn Try.prog 31 [pt a, pt b] [] (fun r _ => r = pt (addG a b)) := curve_Add_c (a0 := a.1) (b0 := b.1) ha.1 ha.2 hb.1 hb.2
theorem neg_cG {a : P3} (ha : wP3 a) : Fn Try.prog 34 [pt a] [] (fun r _ => r = pt (negG a)) := curve_Neg_c (b := a.1) ha.1 ha.2
set_option maxHeartbeats 40000000 in
theorem groth_Prove_o {s : Rk} {pa pb pd : P3} {LA LB LL LH : List P3} {V H : List Int} {r t : Int} (hS : Len s) (hc : chkF s = true) (cq : Fn Try.prog 30 [.agg (rk s), ul V] [] (fun r _ => r = .tup [ul H, nil_])) (wpa : wP3 pa) (wpb : wP3 pb) (wpd : wP3 pd) (hA : ∀ g ∈ LA, wP3 g) (hB : ∀ g ∈ LB, wP3 g) (hL : ∀ g ∈ LL, wP3 g) (hHp : ∀ g ∈ LH, wP3 g)
    (lA : (LA.length : Int) = s.v) (lB : (LB.length : Int) = s.v) (lL : (LL.length : Int) = s.v - 1 - s.p) (lH : LH.length = 2 ^ lg s.l.length - 1) (hV : wV V) (lV : (V.length : Int) = s.v) (wH : wV H) (hH : H.length ≤ LH.length) (wr : w64 r) (wt : w64 t) :
    Fn Try.prog 10 [.agg (pkc pa pb pd LA LB LL LH), .agg (rk s), ul V, u r, u t] [] (fun r_ h_ => r_ = if r ≥ 288230376287764481 ∨ t ≥ 288230376287764481 then .tup [pf0, er 1] else .tup [pf (proA pa pd LA V r) (proA pb pd LB V t) (proC pd (proA pa pd LA V r) (proA pb pd LB V t) LL LH s.p.toNat V H r t), nil_]) := by
  have cS := qap_Size_c hS
  unfold sizeF at cS
  rw [if_pos hc] at cS
  obtain ⟨n, hn, n1, n2, p0, pn, hl⟩ := chk_vg hc
  have hk := (lg_le hl).1
  obtain ⟨t1, t2⟩ := two_le hk
  have kn : ¬ ((lg s.l.length : Nat) : Int) < 0 := by omega
  have shi := shlk (k := lg s.l.length) (by omega)
  rw [Int.toNat_natCast] at shi
  generalize lg s.l.length = k at *
  generalize 2 ^ k = N at *
  have shm : IntKind.i64.wrap ((N:Int) - 1) = ((N - 1 : Nat) : Int) := by rw [wrapI_o (by omega) (by omega)]; omega
  rw [← lH] at shm
  have lA' : LA.length = n := by omega
  have lB' : LB.length = n := by omega
  have lV' : V.length = n := by omega
  obtain ⟨p, hp⟩ := Int.eq_ofNat_of_zero_le p0
  rw [hp] at lL pn p0
  have hpn : s.p.toNat = p := by omega
  rw [hpn]
  have w1 : IntKind.i64.wrap ((n:Int) - 1) = (n:Int) - 1 := wrapI_o (by omega) (by omega)
  have w2 : IntKind.i64.wrap ((n:Int) - 1 - (p:Int)) = (LL.length : Int) := by rw [wrapI_o (by omega) (by omega)]; omega
  have w3 : IntKind.i64.wrap (1 + (p:Int)) = ((1 + p : Nat) : Int) := by rw [wrapI_o (by omega) (by omega)]; omega
  have dV := ul_drop (V := V) (k := 1 + p) (by omega)
  have c1 := groth_together_c (a := pa) (L := LA) wpa hA hV (by omega) (by omega)
  have c2 := mul_cG (a := pd) wpd wr
  have wt1 := togF_w LA V wpa
  have c3 := add_cG (a := togF pa LA V) (b := mulG pd r) wt1 (mulG_w _ _)
  have c4 := groth_together_c (a := pb) (L := LB) wpb hB hV (by omega) (by omega)
  have c5 := mul_cG (a := pd) wpd wt
  have wt2 := togF_w LB V wpb
  have c6 := add_cG (a := togF pb LB V) (b := mulG pd t) wt2 (mulG_w _ _)
  have hVd : wV (V.drop (1 + p)) := fun v hv => hV v (List.mem_of_mem_drop hv)
  have lVd : (V.drop (1 + p)).length = LL.length := by rw [List.length_drop]; omega
  have c7 := groth_together_c (a := (true, 0, 0)) (L := LL) ⟨by decide, by decide⟩ hL hVd (by omega) (by omega)
  have wt3 := togF_w LL (V.drop (1 + p)) (a := (true, 0, 0)) ⟨by decide, by decide⟩
  unfold proC proA
  generalize V.drop (1 + p) = Vd at *
  generalize togF (true, 0, 0) LL Vd = q1 at *
  generalize togF pa LA V = q2 at *
  generalize togF pb LB V = q3 at *
  have wa := addG_w q2 (mulG pd r)
  have wb := addG_w q3 (mulG pd t)
  generalize addG q2 (mulG pd r) = a at *
  generalize addG q3 (mulG pd t) = b at *
  have wm1 := mulG_w pd r
  have wm2 := mulG_w pd t
  generalize mulG pd r = m1 at *
  generalize mulG pd t = m2 at *
  have c8 := groth_together_c (a := q1) (L := LH) wt3 hHp wH (by omega) (by omega)
  have wt4 := togF_w LH H wt3
  generalize togF q1 LH H = q4 at *
  have c9 := mul_cG (a := a) wa wt
  have c10 := add_cG (a := q4) (b := mulG a t) wt4 (mulG_w _ _)
  have wq5 := addG_w q4 (mulG a t)
  generalize addG q4 (mulG a t) = q5 at *
  generalize mulG a t = m3 at *
  have c11 := mul_cG (a := b) wb wr
  have c12 := add_cG (a := q5) (b := mulG b r) wq5 (mulG_w _ _)
  have wq6 := addG_w q5 (mulG b r)
  generalize addG q5 (mulG b r) = q6 at *
  generalize mulG b r = m4 at *
  have c13 := groth_mul_c wr wt
  have wrt : w64 (r * t % 288230376287764481) := w64_r _
  generalize r * t % 288230376287764481 = rt at *
  have c14 := mul_cG (a := pd) wpd wrt
  have wm5 := mulG_w pd rt
  generalize mulG pd rt = m5 at *
  have c15 := neg_cG (a := m5) wm5
  have wm6 := negG_w m5
  generalize negG m5 = m6 at *
  have c16 := add_cG (a := q6) (b := m6) wq6 wm6
  generalize addG q6 m6 = c at *
  clear wm6 wm5 wrt wq6 wq5 wt4 wm1 wm2 wa wb wt3 wt2 wt1 hVd lVd hA hB hL hHp wH hH hV wr wt wpa wpb wpd
  obtain ⟨sv, sp, sl_⟩ := s
  simp only at hn hp cS cq
  subst hn
  subst hp
  obtain ⟨pa0, pa1, pa2⟩ := pa
  obtain ⟨pb0, pb1, pb2⟩ := pb
  obtain ⟨pd0, pd1, pd2⟩ := pd
  obtain ⟨q10, q11, q12⟩ := q1
  obtain ⟨q20, q21, q22⟩ := q2
  obtain ⟨q30, q31, q32⟩ := q3
  obtain ⟨q40, q41, q42⟩ := q4
  obtain ⟨q50, q51, q52⟩ := q5
  obtain ⟨q60, q61, q62⟩ := q6
  obtain ⟨m10, m11, m12⟩ := m1
  obtain ⟨m20, m21, m22⟩ := m2
  obtain ⟨m30, m31, m32⟩ := m3
  obtain ⟨m40, m41, m42⟩ := m4
  obtain ⟨m50, m51, m52⟩ := m5
  obtain ⟨m60, m61, m62⟩ := m6
  obtain ⟨a0, a1, a2⟩ := a
  obtain ⟨b0, b1, b2⟩ := b
  obtain ⟨c0, c1_, c2_⟩ := c
  clear lA lB lL lH lV pn p0 hl n1 n2 hc hS t1 t2 hk hpn
  rw [lV'] at dV
  unfold pkc
  rw [show ul V = .sl n (fm u1 V) by rw [ul_def, lV']] at cq c1 c4 ⊢
  rw [show pl LA = .sl n (fm ptc LA) by show AV.sl LA.length _ = _; rw [lA']] at c1 ⊢
  rw [show pl LB = .sl n (fm ptc LB) by show AV.sl LB.length _ = _; rw [lB']] at c4 ⊢
  clear lA' lB' lV'
  refine Fn.enter Try.func10 Try.ntmps10 rfl (h := ?_)
  have tf := tf
  have tfr := tfr
  have tfl := tfl
  have tfg := tfg
  have ot_ : (false || true) = true := rfl
  have bf : (true == false) = false := rfl
  have bf2 : (false == false) = true := rfl
  repeat refine AW.seq ?_
  refine AW.reg ?_
  iterate 4 refine AOL.s1 (h := ?_)
  refine AOL.nil ?_
  refine AW.kq [2, 3, 4, 5, 6, 10] (h := ?_)
  repeat refine AW.seq ?_
  refine AW.reg ?_
  iterate 2 refine AOL.s1 (h := ?_)
  refine AOL.callD rfl (cq) (by kernel_rfl) rfl rfl (h := ?_)
  iterate 5 refine AOL.s1 (h := ?_)
  refine AOL.nil ?_
  refine AW.kq [2, 3, 4, 5, 6, 10, 12, 13] (h := ?_)
  repeat refine AW.seq ?_
  refine AW.reg ?_
  iterate 2 refine AOL.s1 (h := ?_)
  refine AOL.nil ?_
  refine AW.kq [2, 3, 4, 5, 6, 10, 12, 13, 24] (h := ?_)
  repeat refine AW.seq ?_
  refine AW.cond rfl (fun c_ => ?_) (fun c_ => ?_)
  · cases c_
  refine AW.skip ?_
  repeat refine AW.seq ?_
  refine AW.reg ?_
  iterate 1 refine AOL.s1 (h := ?_)
  refine AOL.callD rfl (cS) (by kernel_rfl) rfl rfl (h := ?_)
  iterate 5 refine AOL.s1 (h := ?_)
  refine AOL.nil ?_
  refine AW.kq [2, 3, 4, 5, 6, 10, 12, 13, 14] (h := ?_)
  repeat refine AW.seq ?_
  refine AW.reg ?_
  iterate 2 refine AOL.s1 (h := ?_)
  refine AOL.nil ?_
  refine AW.kq [2, 3, 4, 5, 6, 10, 12, 13, 14, 33] (h := ?_)
  repeat refine AW.seq ?_
  refine AW.cond rfl (fun c_ => ?_) (fun c_ => ?_)
  · cases c_
  refine AW.skip ?_
  repeat refine AW.seq ?_
  clear cq cS
  cases hr : decide (r ≥ 288230376287764481) with
  | true =>
    rw [if_pos (Or.inl (by simpa using hr))]
    refine AW.drw 42 [] (by kernel_rfl) (h := ?_)
    iterate 42 refine ADL.dm 1 (h := ?_)
    refine ADL.done hmix rfl rfl (hT := ?_)
    iterate 1 refine AOL.s1 (h := ?_)
    refine AOL.nil ?_
    refine AW.kq [2, 3, 4, 5, 6, 10, 12, 78] (h := ?_)
    repeat refine AW.seq ?_
    refine AW.cond rfl (fun c_ => ?_) (fun c_ => ?_)
    · repeat refine AW.seq ?_
      refine AW.reg ?_
      iterate 4 refine AOL.s1 (h := ?_)
      refine AOL.nil ?_
      refine AW.kq [10, 11] (h := ?_)
      repeat refine AW.seq ?_
      refine AW.ret ?_
      refine ⟨_, [], rfl, HOk.nil _, ?_⟩
      rfl
    cases c_
  | false =>
  cases ht : decide (t ≥ 288230376287764481) with
  | true =>
    rw [if_pos (Or.inr (by simpa using ht))]
    refine AW.drw 42 [] (by kernel_rfl) (h := ?_)
    iterate 42 refine ADL.dm 1 (h := ?_)
    refine ADL.done hmix rfl rfl (hT := ?_)
    iterate 1 refine AOL.s1 (h := ?_)
    refine AOL.nil ?_
    refine AW.kq [2, 3, 4, 5, 6, 10, 12, 78] (h := ?_)
    repeat refine AW.seq ?_
    refine AW.cond rfl (fun c_ => ?_) (fun c_ => ?_)
    · repeat refine AW.seq ?_
      refine AW.reg ?_
      iterate 4 refine AOL.s1 (h := ?_)
      refine AOL.nil ?_
      refine AW.kq [10, 11] (h := ?_)
      repeat refine AW.seq ?_
      refine AW.ret ?_
      refine ⟨_, [], rfl, HOk.nil _, ?_⟩
      rfl
    cases c_
  | false =>
  rw [if_neg (by simp only [decide_eq_false_iff_not] at hr ht; exact fun h => h.elim hr ht)]
  refine AW.drw 42 [] (by kernel_rfl) (h := ?_)
  iterate 42 refine ADL.dm 1 (h := ?_)
  refine ADL.done hmix rfl rfl (hT := ?_)
  iterate 1 refine AOL.s1 (h := ?_)
  refine AOL.nil ?_
  refine AW.kq [2, 3, 4, 5, 6, 10, 12, 78] (h := ?_)
  repeat refine AW.seq ?_
  refine AW.cond rfl (fun c_ => ?_) (fun c_ => ?_)
  · cases c_
  refine AW.skip ?_
  repeat refine AW.seq ?_
  refine AW.reg ?_
  iterate 1 refine AOL.s1 (h := ?_)
  refine AOL.nil ?_
  refine AW.kq [2, 3, 4, 5, 6, 10, 12, 15] (h := ?_)
  repeat refine AW.seq ?_
  refine AW.dw [(12, 1240, ⟨43, true, pfc (a0, a1, a2) (false, 0, 0) (false, 0, 0)⟩)] 13 [] (by kernel_rfl) (h := ?_)
  iterate 5 refine ADLW.d1 (h := ?_)
  refine ADLW.call rfl rfl (c1) (by kernel_rfl) rfl rfl (by simp only [List.cons_append, List.nil_append]; exact rfl) ?_
  iterate 3 refine ADLW.d1 (h := ?_)
  refine ADLW.call rfl rfl (c2) (by kernel_rfl) rfl rfl (by simp only [List.cons_append, List.nil_append]; exact rfl) ?_
  refine ADLW.call rfl rfl (c3) (by kernel_rfl) rfl rfl (by simp only [List.cons_append, List.nil_append]; exact rfl) ?_
  iterate 1 refine ADLW.d1 (h := ?_)
  refine ADLW.st (h := ?_)
  refine ADLW.fin hmix rfl rfl rfl rfl (hT := ?_)
  refine AOL.nil ?_
  refine AW.kq [2, 3, 4, 5, 6, 10, 12, 15] (h := ?_)
  repeat refine AW.seq ?_
  refine AW.dw [(12, 1240, ⟨43, true, pfc (a0, a1, a2) (b0, b1, b2) (false, 0, 0)⟩)] 13 [] (by kernel_rfl) (h := ?_)
  iterate 5 refine ADLW.d1 (h := ?_)
  refine ADLW.call rfl rfl (c4) (by kernel_rfl) rfl rfl (by simp only [List.cons_append, List.nil_append]; exact rfl) ?_
  iterate 3 refine ADLW.d1 (h := ?_)
  refine ADLW.call rfl rfl (c5) (by kernel_rfl) rfl rfl (by simp only [List.cons_append, List.nil_append]; exact rfl) ?_
  refine ADLW.call rfl rfl (c6) (by kernel_rfl) rfl rfl (by simp only [List.cons_append, List.nil_append]; exact rfl) ?_
  iterate 1 refine ADLW.d1 (h := ?_)
  refine ADLW.st (h := ?_)
  refine ADLW.fin hmix rfl rfl rfl rfl (hT := ?_)
  refine AOL.nil ?_
  refine AW.kq [2, 3, 4, 5, 6, 10, 12, 15] (h := ?_)
  repeat refine AW.seq ?_
  refine AW.drw 10 [1256] (by kernel_rfl) (h := ?_)
  iterate 8 refine ADL.dm 1 (h := ?_)
  refine ADL.call rfl (c7) (by kernel_rfl) rfl rfl (h := ?_)
  iterate 1 refine ADL.dm 1 (h := ?_)
  refine ADL.done hmix rfl rfl (hT := ?_)
  iterate 1 refine AOL.s1 (h := ?_)
  refine AOL.nil ?_
  refine AW.kq [3, 4, 5, 10, 12, 15, 16] (h := ?_)
  repeat refine AW.seq ?_
  refine AW.drw 9 [] (by kernel_rfl) (h := ?_)
  iterate 4 refine ADL.dm 1 (h := ?_)
  refine ADL.call rfl (c8) (by kernel_rfl) rfl rfl (h := ?_)
  iterate 3 refine ADL.dm 1 (h := ?_)
  refine ADL.call rfl (c9) (by kernel_rfl) rfl rfl (h := ?_)
  refine ADL.done hmix rfl rfl (hT := ?_)
  refine AOL.callD rfl (c10) (by kernel_rfl) rfl rfl (h := ?_)
  iterate 1 refine AOL.s1 (h := ?_)
  refine AOL.nil ?_
  refine AW.kq [3, 4, 5, 10, 15, 16] (h := ?_)
  repeat refine AW.seq ?_
  refine AW.drw 5 [] (by kernel_rfl) (h := ?_)
  iterate 4 refine ADL.dm 1 (h := ?_)
  refine ADL.call rfl (c11) (by kernel_rfl) rfl rfl (h := ?_)
  refine ADL.done hmix rfl rfl (hT := ?_)
  refine AOL.callD rfl (c12) (by kernel_rfl) rfl rfl (h := ?_)
  iterate 1 refine AOL.s1 (h := ?_)
  refine AOL.nil ?_
  refine AW.kq [3, 4, 5, 10, 15, 16] (h := ?_)
  repeat refine AW.seq ?_
  refine AW.dw [(10, 1240, ⟨43, true, pfc (a0, a1, a2) (b0, b1, b2) (c0, c1_, c2_)⟩)] 11 [] (by kernel_rfl) (h := ?_)
  iterate 5 refine ADLW.d1 (h := ?_)
  refine ADLW.call rfl rfl (c13) (by kernel_rfl) rfl rfl (by simp only [List.cons_append, List.nil_append]; exact rfl) ?_
  refine ADLW.call rfl rfl (c14) (by kernel_rfl) rfl rfl (by simp only [List.cons_append, List.nil_append]; exact rfl) ?_
  refine ADLW.call rfl rfl (c15) (by kernel_rfl) rfl rfl (by simp only [List.cons_append, List.nil_append]; exact rfl) ?_
  refine ADLW.call rfl rfl (c16) (by kernel_rfl) rfl rfl (by simp only [List.cons_append, List.nil_append]; exact rfl) ?_
  iterate 1 refine ADLW.d1 (h := ?_)
  refine ADLW.st (h := ?_)
  refine ADLW.fin hmix rfl rfl rfl rfl (hT := ?_)
  refine AOL.nil ?_
  refine AW.kq [10, 15] (h := ?_)
  repeat refine AW.seq ?_
  refine AW.reg ?_
  iterate 3 refine AOL.s1 (h := ?_)
  refine AOL.nil ?_
  refine AW.kq [10, 11] (h := ?_)
  repeat refine AW.seq ?_
  refine AW.ret ?_
  refine ⟨_, [], rfl, HOk.nil _, ?_⟩
  rfl
end Go.Proofs.Ytdbpjegocmdplaa.E.M

