/- obolref16: the hash of a place, what is amiss with leaves, and climbing: contracts over E. -/
import Derived.Test.YthajlelljnkdiaaTre
import Derived.Test.YthajlelljnkdiaaProg
import Derived.KernelRfl
set_option linter.unusedVariables false
set_option linter.unusedSimpArgs false
set_option maxRecDepth 10000
open Go Go.Proofs.Ythajlelljnkdiaa.E Go.Proofs
namespace Go.Proofs.Ythajlelljnkdiaa.E.M
theorem atH_e {L : List Int} {l k : Nat} (h : ¬ k * 2 ^ l < L.length) : atH L l k = empH l := by
  cases l with
  | zero => simp only [Nat.pow_zero, Nat.mul_one] at h; simp only [atH, if_neg h]
  | succ l => simp only [atH, if_neg h]
theorem atH_0 {L : List Int} {k : Nat} (h : k < L.length) : atH L 0 k = L.getD k 0 := by simp only [atH, if_pos h]
theorem atH_s {L : List Int} {l k : Nat} (h : k * 2 ^ (l + 1) < L.length) : atH L (l + 1) k = twoH (atH L l (2 * k)) (atH L l (2 * k + 1)) := by simp only [atH, if_pos h]
theorem atH_w {L : List Int} (hL : wV L) : ∀ (l k : Nat), w64 (atH L l k)
  | 0, k => by
    by_cases h : k < L.length
    · rw [atH_0 h, List.getD_eq_getElem?_getD, List.getElem?_eq_getElem h]; exact hL _ (List.getElem_mem h)
    · rw [atH_e (by simpa using h)]; exact (empH_l _).w
  | l + 1, k => by
    by_cases h : k * 2 ^ (l + 1) < L.length
    · rw [atH_s h]; exact (twoH_l _ _).w
    · rw [atH_e h]; exact (empH_l _).w
theorem shl_k {k l : Nat} (hl : l ≤ 16) (h : (k + 1) * 2 ^ l ≤ 1099511627776) : IntKind.i64.wrap ((k:Int) * 2 ^ min l IntKind.i64.bits) = ((k * 2 ^ l : Nat) : Int) := by
  have eb : IntKind.i64.bits = 64 := rfl
  have e : min l IntKind.i64.bits = l := by rw [eb]; omega
  rw [e]
  have h2 : (k + 1) * 2 ^ l = k * 2 ^ l + 2 ^ l := by rw [Nat.add_mul, Nat.one_mul]
  have h3 : (k:Int) * 2 ^ l = ((k * 2 ^ l : Nat) : Int) := by simp
  have p0 : 0 < 2 ^ l := Nat.pow_pos (by decide)
  rw [h3, wrapI_o (Int.natCast_nonneg _) (by omega)]
set_option maxHeartbeats 1000000 in
theorem obolref16_At_s {V : List Int} (hV : wV V) (lV : V.length < 1000000000) (l k : Nat) (hl : l ≤ 16) (hk : (k + 1) * 2 ^ l ≤ 1099511627776) (ih : ∀ (l' k' : Nat), l = l' + 1 → (k' + 1) * 2 ^ l' ≤ 1099511627776 → Fn Try.prog 21 [ul V, i l', i k'] [] (fun r _ => r = u (atH V l' k'))) : Fn Try.prog 21 [ul V, i l, i k] [] (fun r h_ => r = u (atH V l k)) := by
  refine Fn.enter Try.func21 Try.ntmps21 rfl (h := ?_)
  have tf := tfn
  have ot_ : (false || true) = true := rfl
  have s1 := shl_k hl hk
  have e0 : ((k * 2 ^ l : Nat) : Int) = (k:Int) * 2 ^ l := by simp
  have s0 : ¬ (l:Int) < 0 := by omega
  repeat refine AW.seq ?_
  refine AW.reg ?_
  iterate 1 refine AOL.s1 (h := ?_)
  refine AOL.nil ?_
  refine AW.kq [0, 1, 2] (h := ?_)
  repeat refine AW.seq ?_
  refine AW.reg ?_
  iterate 6 refine AOL.s1 (h := ?_)
  refine AOL.nil ?_
  refine AW.kq [0, 1, 2, 12] (h := ?_)
  repeat refine AW.seq ?_
  refine AW.cond rfl (fun c_ => ?_) (fun c_ => ?_)
  · rw [atH_e (by simp at c_; rw [← e0] at c_; omega)]
    repeat refine AW.seq ?_
    refine AW.reg ?_
    iterate 1 refine AOL.s1 (h := ?_)
    clear e0
    refine AOL.callD rfl (obolref16_empty_c (by omega)) (by kernel_rfl) rfl rfl (h := ?_)
    iterate 1 refine AOL.s1 (h := ?_)
    refine AOL.nil ?_
    refine AW.kq [6] (h := ?_)
    repeat refine AW.seq ?_
    refine AW.ret ?_
    refine ⟨_, [], rfl, HOk.nil _, ?_⟩
    rfl
  have c1 : k * 2 ^ l < V.length := by simp at c_; rw [← e0] at c_; omega
  clear c_ s1 e0
  refine AW.skip ?_
  repeat refine AW.seq ?_
  refine AW.reg ?_
  iterate 2 refine AOL.s1 (h := ?_)
  refine AOL.nil ?_
  refine AW.kq [0, 1, 2, 16] (h := ?_)
  repeat refine AW.seq ?_
  refine AW.cond rfl (fun d_ => ?_) (fun d_ => ?_)
  · have l0 : l = 0 := by simp at d_; omega
    subst l0
    have c2 : k < V.length := by simpa using c1
    have k0 : (0:Int) ≤ k := by omega
    have k1 : (k:Int) < V.length := by omega
    have hd : (fm u1 V).drop (k * 1) = u (V.getD k 0) :: fm u1 (V.drop (k + 1)) := fm_drop u1_len (by rw [List.drop_eq_getElem_cons c2, List.getD_eq_getElem?_getD, List.getElem?_eq_getElem c2]; rfl)
    have hd' : (fm u1 V).drop k = u (V.getD k 0) :: fm u1 (V.drop (k + 1)) := by simpa using hd
    rw [atH_0 c2]
    clear c1 hd
    repeat refine AW.seq ?_
    refine AW.reg ?_
    iterate 5 refine AOL.s1 (h := ?_)
    refine AOL.nil ?_
    refine AW.kq [6] (h := ?_)
    repeat refine AW.seq ?_
    refine AW.ret ?_
    refine ⟨_, [], rfl, HOk.nil _, ?_⟩
    rfl
  obtain ⟨l', rfl⟩ : ∃ m, l = m + 1 := ⟨l - 1, by simp at d_; omega⟩
  rw [atH_s c1]
  have p2 : 2 ^ (l' + 1) = 2 * 2 ^ l' := by rw [Nat.pow_succ, Nat.mul_comm]
  have p1 : 0 < 2 ^ l' := Nat.pow_pos (by decide)
  have hk2 : (k + 1) * (2 * 2 ^ l') ≤ 1099511627776 := by rw [← p2]; exact hk
  have hk3 : (k + 1) * (2 * 2 ^ l') = (2 * k + 1) * 2 ^ l' + 2 ^ l' := by
    rw [← Nat.mul_assoc, show (k + 1) * 2 = (2 * k + 1) + 1 by omega, Nat.add_mul _ 1, Nat.one_mul]
  have hk4 : (2 * k + 1 + 1) * 2 ^ l' = (2 * k + 1) * 2 ^ l' + 2 ^ l' := by rw [Nat.add_mul _ 1, Nat.one_mul]
  have hk5 : k * 1 ≤ k * (2 * 2 ^ l') := Nat.mul_le_mul_left k (by omega)
  have hk6 : (k + 1) * (2 * 2 ^ l') = k * (2 * 2 ^ l') + 2 * 2 ^ l' := by rw [Nat.add_mul, Nat.one_mul]
  have kb : k ≤ 1099511627776 := by omega
  have e1 : IntKind.i64.wrap (((l' + 1 : Nat) : Int) - 1) = (l' : Int) := by rw [wrapI_o (by omega) (by omega)]; omega
  have e2 : IntKind.i64.wrap (2 * (k:Int)) = ((2 * k : Nat) : Int) := by rw [wrapI_o (by omega) (by omega)]; omega
  have e3 : IntKind.i64.wrap (((2 * k : Nat) : Int) + 1) = ((2 * k + 1 : Nat) : Int) := by rw [wrapI_o (by omega) (by omega)]; omega
  have i1 := ih l' (2 * k) rfl (by omega)
  have i2 := ih l' (2 * k + 1) rfl (by omega)
  have w1 := atH_w hV l' (2 * k)
  have w2 := atH_w hV l' (2 * k + 1)
  clear ih hk hk2 hk3 hk4 hk5 hk6 p1 p2 c1 d_
  refine AW.skip ?_
  repeat refine AW.seq ?_
  refine AW.reg ?_
  iterate 5 refine AOL.s1 (h := ?_)
  refine AOL.callD rfl (i1) (by kernel_rfl) rfl rfl (h := ?_)
  iterate 6 refine AOL.s1 (h := ?_)
  refine AOL.callD rfl (i2) (by kernel_rfl) rfl rfl (h := ?_)
  refine AOL.callD rfl (obolref10_Two_c w1 w2) (by kernel_rfl) rfl rfl (h := ?_)
  iterate 1 refine AOL.s1 (h := ?_)
  refine AOL.nil ?_
  refine AW.kq [6] (h := ?_)
  repeat refine AW.seq ?_
  refine AW.ret ?_
  refine ⟨_, [], rfl, HOk.nil _, ?_⟩
  rfl
theorem obolref16_At_c {V : List Int} (hV : wV V) (lV : V.length < 1000000000) : ∀ (l k : Nat), l ≤ 16 → (k + 1) * 2 ^ l ≤ 1099511627776 → Fn Try.prog 21 [ul V, i l, i k] [] (fun r _ => r = u (atH V l k))
  | 0, k, hl, hk => obolref16_At_s hV lV 0 k hl hk (fun l' _ h => by omega)
  | l + 1, k, hl, hk => obolref16_At_s hV lV (l + 1) k hl hk (fun l' k' h h2 => by
    have e : l' = l := by omega
    subst e
    exact obolref16_At_c hV lV l' k' (by omega) h2)
set_option maxHeartbeats 1000000 in
theorem obolref16_May_c {V : List Int} {d : Int} (hV : wV V) (lV : V.length < 1000000000) : Fn Try.prog 17 [ul V, i d] [] (fun r h_ => r = i (mayH V d)) := by
  refine Fn.enter Try.func17 Try.ntmps17 rfl (h := ?_)
  have tf := tfn
  have ot_ : (false || true) = true := rfl
  unfold mayH
  repeat refine AW.seq ?_
  refine AW.reg ?_
  iterate 1 refine AOL.s1 (h := ?_)
  refine AOL.nil ?_
  refine AW.kq [0, 1] (h := ?_)
  repeat refine AW.seq ?_
  refine AW.reg ?_
  iterate 3 refine AOL.s1 (h := ?_)
  refine AOL.kq [0, 1, 8] (h := ?_)
  refine AOL.or 8 11 (os' := ?_) (x := ?_) (h1 := ?_) (h0 := ?_) (h := ?_)
  rotate_left 2
  iterate 2
    · intro hb_ K' hK; (iterate 3 refine AOL.s1 (h := ?_)); refine AOL.kq [0, 1, 11] (h := ?_); exact hK
  refine AOL.nil ?_
  refine AW.kq [0, 1, 11] (h := ?_)
  repeat refine AW.seq ?_
  refine AW.cond rfl (fun c_ => ?_) (fun c_ => ?_)
  · rw [if_pos (by simpa using c_)]
    repeat refine AW.seq ?_
    refine AW.reg ?_
    iterate 1 refine AOL.s1 (h := ?_)
    refine AOL.nil ?_
    refine AW.kq [4] (h := ?_)
    repeat refine AW.seq ?_
    refine AW.ret ?_
    refine ⟨_, [], rfl, HOk.nil _, ?_⟩
    rfl
  rw [if_neg (by simpa using c_)]
  have hd : 1 ≤ d ∧ d ≤ 16 := by simp at c_; omega
  clear c_
  refine AW.skip ?_
  repeat refine AW.seq ?_
  refine AW.reg ?_
  iterate 1 refine AOL.s1 (h := ?_)
  refine AOL.nil ?_
  refine AW.kq [0, 1, 5] (h := ?_)
  repeat refine AW.seq ?_
  refine AW.block ?_
  repeat refine AW.seq ?_
  refine AW.loopK [0, 1, 5] (fun n s => ∃ (k : Nat) (r : List Int), s = ⟨28, [(0, ul V), (1, i d), (5, i k)], []⟩ ∧ V.drop k = r ∧ k ≤ V.length ∧ n = r.length ∧ r.any (fun v => decide (v ≥ 288230376287764481)) = V.any (fun v => decide (v ≥ 288230376287764481))) (V.length) ?_ ?_
  · exact ⟨0, V, rfl, rfl, Nat.zero_le _, rfl, rfl⟩
  rintro n s ⟨k, r, rfl, hr, hkl, rfl, hi⟩
  repeat refine AW.seq ?_
  refine AW.reg ?_
  iterate 4 refine AOL.s1 (h := ?_)
  refine AOL.nil ?_
  refine AW.kq [0, 1, 5, 15] (h := ?_)
  repeat refine AW.seq ?_
  refine AW.cond rfl (fun e_ => ?_) (fun e_ => ?_)
  · obtain ⟨t, r, rfl⟩ := ends_cons hr hkl (by simpa using e_)
    obtain ⟨hlt, hr', ht⟩ := dconsq hr
    have hw := incq hlt lV
    have k0 : (0:Int) ≤ k := by omega
    have k1 : (k:Int) < V.length := by omega
    have hd1 : (fm u1 V).drop (k * 1) = u t :: fm u1 r := fm_drop u1_len hr
    have hd' : (fm u1 V).drop k = u t :: fm u1 r := by simpa using hd1
    clear hd1
    refine AW.skip ?_
    repeat refine AW.seq ?_
    refine AW.block ?_
    repeat refine AW.seq ?_
    refine AW.reg ?_
    iterate 5 refine AOL.s1 (h := ?_)
    refine AOL.nil ?_
    refine AW.kq [0, 1, 5, 22] (h := ?_)
    repeat refine AW.seq ?_
    refine AW.cond rfl (fun f_ => ?_) (fun f_ => ?_)
    · rw [if_pos (by rw [← hi, List.any_cons, Bool.or_eq_true]; exact .inl f_)]
      repeat refine AW.seq ?_
      refine AW.reg ?_
      iterate 1 refine AOL.s1 (h := ?_)
      refine AOL.nil ?_
      refine AW.kq [4] (h := ?_)
      repeat refine AW.seq ?_
      refine AW.ret ?_
      refine ⟨_, [], rfl, HOk.nil _, ?_⟩
      rfl
    have hi : r.any (fun v => decide (v ≥ 288230376287764481)) = V.any (fun v => decide (v ≥ 288230376287764481)) := by rw [← hi, List.any_cons, f_, Bool.false_or]
    refine AW.skip ?_
    repeat refine AW.seq ?_
    refine AW.reg ?_
    iterate 3 refine AOL.s1 (h := ?_)
    refine AOL.nil ?_
    exact ⟨r.length, by simp, k + 1, r, rfl, hr', hlt, rfl, hi⟩
  · obtain rfl := ends_nil hr (by simpa using e_)
    have hi : V.any (fun v => decide (v ≥ 288230376287764481)) = false := by rw [← hi]; rfl
    rw [if_neg (by rw [hi]; decide)]
    obtain ⟨m, rfl⟩ : ∃ m : Nat, d = m := ⟨d.toNat, by omega⟩
    have s1 := shl_k (k := 1) (l := m) (by omega) (by
      have : 2 ^ m ≤ 2 ^ 16 := Nat.pow_le_pow_right (by decide) (by omega)
      omega)
    have s2 : ((1:Nat):Int) = 1 := rfl
    rw [s2] at s1
    have s0 : ¬ (m:Int) < 0 := by omega
    have s3 : ((1 * 2 ^ m : Nat) : Int) = 2 ^ (m:Int).toNat := by rw [Nat.one_mul, Int.toNat_natCast]; simp
    clear s2 hi
    repeat refine AW.seq ?_
    refine AW.exit ?_
    repeat (first | refine Kseq.ex ?_ | refine Kloop.ex ?_ | refine Kblock.miss (by decide) ?_)
    refine Kblock.hit ?_
    refine AW.kq [0, 1] (h := ?_)
    repeat refine AW.seq ?_
    refine AW.reg ?_
    iterate 5 refine AOL.s1 (h := ?_)
    refine AOL.nil ?_
    refine AW.kq [27] (h := ?_)
    repeat refine AW.seq ?_
    refine AW.cond rfl (fun g_ => ?_) (fun g_ => ?_)
    · rw [if_pos (by rw [← s3]; simpa using g_)]
      repeat refine AW.seq ?_
      refine AW.reg ?_
      iterate 1 refine AOL.s1 (h := ?_)
      refine AOL.nil ?_
      refine AW.kq [4] (h := ?_)
      repeat refine AW.seq ?_
      refine AW.ret ?_
      refine ⟨_, [], rfl, HOk.nil _, ?_⟩
      rfl
    rw [if_neg (by rw [← s3]; simpa using g_)]
    refine AW.skip ?_
    repeat refine AW.seq ?_
    refine AW.reg ?_
    iterate 1 refine AOL.s1 (h := ?_)
    refine AOL.nil ?_
    refine AW.kq [4] (h := ?_)
    repeat refine AW.seq ?_
    refine AW.ret ?_
    refine ⟨_, [], rfl, HOk.nil _, ?_⟩
    rfl
end Go.Proofs.Ythajlelljnkdiaa.E.M

