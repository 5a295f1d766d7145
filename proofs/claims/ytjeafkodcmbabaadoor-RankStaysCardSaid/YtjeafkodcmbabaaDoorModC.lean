/- Products and powers modulo m, the program's and the document's: contracts over E. -/
import Derived.Test.YtjeafkodcmbabaaDoorModB
import Derived.Test.YtjeafkodcmbabaaDoorProg
import Derived.KernelRfl
set_option linter.unusedVariables false
set_option linter.unusedSimpArgs false
set_option maxRecDepth 10000
open Go Go.Proofs.YtjeafkodcmbabaaDoor.E Go.Proofs
namespace Go.Proofs.YtjeafkodcmbabaaDoor.E.M
def pm (n : Nat) : Nat → Nat → Nat → Nat
  | 0, _, _ => 1 % n
  | k + 1, b, e => if e = 0 then 1 % n else if e % 2 = 1 then b * pm n k (b * b % n) (e / 2) % n else pm n k (b * b % n) (e / 2)
theorem pm_eq (n k : Nat) : ∀ b e, e < 2 ^ k → pm n k b e = b ^ e % n := by
  induction k with
  | zero => intro b e h; have : e = 0 := by omega
            subst this; simp [pm]
  | succ k ih =>
    intro b e h
    have h2 : e / 2 < 2 ^ k := by rw [Nat.pow_succ] at h; omega
    unfold pm
    split
    · subst_vars; simp
    · have key : (b * b % n) ^ (e / 2) % n = b ^ (2 * (e / 2)) % n := by rw [← Nat.pow_mod, Nat.pow_mul, Nat.pow_two]
      split
      · rw [ih _ _ h2, key, Nat.mul_mod, Nat.mod_mod, ← Nat.mul_mod, ← Nat.pow_succ']; congr 2; omega
      · rw [ih _ _ h2, key]; congr 2; omega
/-- powers -/
def ipow (m a e : Int) : Int := (pm m.toNat 64 a.toNat e.toNat : Nat)
theorem ipow_eq {m a e : Int} (hm : 0 ≤ m) (ha : 0 ≤ a) (he : w64 e) : ipow m a e = a ^ e.toNat % m := by
  unfold ipow
  rw [pm_eq _ _ _ _ (by omega)]
  obtain ⟨m, rfl⟩ := Int.eq_ofNat_of_zero_le hm
  obtain ⟨a, rfl⟩ := Int.eq_ofNat_of_zero_le ha
  simp
theorem pow_emod (a m : Int) (n : Nat) : (a % m) ^ n % m = a ^ n % m := by
  induction n with
  | zero => simp
  | succ n ih => rw [Int.pow_succ, Int.mul_emod, ih, Int.emod_emod_of_dvd _ (Int.dvd_refl m), ← Int.mul_emod, ← Int.pow_succ]
theorem pow_step (O A m : Int) (k : Nat) : O * (A * A % m) ^ k % m = O * A ^ (2 * k) % m := by
  rw [Int.mul_emod, pow_emod, ← Int.mul_emod, Int.pow_mul, show A ^ 2 = A * A by rw [Int.pow_succ, Int.pow_one]]
theorem bits_step (y : Int) (i : Nat) (hi : i < 64) : y / 2 ^ (63 - i) = 2 * (y / 2 ^ (64 - i)) + y / 2 ^ (63 - i) % 2 := by
  have h : (2:Int) ^ (64 - i) = 2 ^ (63 - i) * 2 := by rw [← Int.pow_succ]; congr 1; omega
  rw [h, ← Int.ediv_ediv_of_nonneg (Int.le_of_lt (Int.pow_pos (by decide)))]
  generalize y / 2 ^ (63 - i) = z
  omega
theorem bits_step' (y : Int) (i : Nat) (hi : i < 64) : ∃ t u : Int, y / 2 ^ (64 - i) = t ∧ y / 2 ^ (63 - i) = u ∧ y / 2 ^ (64 - (i + 1)) = u ∧ u = 2 * t + u % 2 :=
  ⟨_, _, rfl, rfl, by rw [show 64 - (i + 1) = 63 - i by omega], bits_step y i hi⟩
theorem emod_twice {a m : Int} (h0 : 0 ≤ a) (h1 : a < m) : (if a ≥ m - a then a - (m - a) else a + a) = (2 * a) % m := by
  split
  · have : 2 * a = (2 * a - m) + m := by omega
    rw [this, Int.add_emod_right, Int.emod_eq_of_lt (by omega) (by omega)]; omega
  · rw [Int.emod_eq_of_lt (by omega) (by omega)]; omega
theorem emod_plus {a b m : Int} (h0 : 0 ≤ a) (h1 : a < m) (h2 : 0 ≤ b) (h3 : b < m) : (if a ≥ m - b then a - (m - b) else a + b) = (a + b) % m := by
  split
  · have : a + b = (a + b - m) + m := by omega
    rw [this, Int.add_emod_right, Int.emod_eq_of_lt (by omega) (by omega)]; omega
  · rw [Int.emod_eq_of_lt (by omega) (by omega)]
theorem shr_b {y : Int} {k : Nat} (h : w64 y) (hk : k ≤ 64) : y.fdiv (2 ^ min k IntKind.u64.bits) = y / 2 ^ k ∧ w64 (y / 2 ^ k) := by
  have hp : (0:Int) < 2 ^ k := Int.pow_pos (by decide)
  rw [Nat.min_eq_left (by simp [IntKind.bits]; omega), Int.fdiv_eq_ediv_of_nonneg _ (Int.le_of_lt hp)]
  have h1 := Int.ediv_nonneg h.1 (Int.le_of_lt hp)
  have h2 := Int.ediv_le_self (2 ^ k) h.1
  generalize y / 2 ^ k = z at *
  exact ⟨rfl, h1, by omega⟩
theorem toNat_two {t : Int} (h : 0 ≤ t) : (2 * t).toNat = 2 * t.toNat ∧ (2 * t + 1).toNat = 2 * t.toNat + 1 := by omega
theorem zero_high {y : Int} (h : w64 y) : y / 2 ^ (64 - 0) = 0 := Int.ediv_eq_zero_of_lt h.1 (by have := h.2; exact this)
theorem modular_Mul_c {m a b : Int} (hm : md m) (ha : w64 a) (hb : w64 b) : Fn Tryd.prog 18 [u m, u a, u b] [] (fun r _ => r = u (a * b % m)) := by
  have h0 : ¬ m = 0 := by omega
  have h5 := tmod_nn (m := m) ha.1
  have h6 := tmod_nn (m := m) hb.1
  have h3 := lt_mod hm a
  have h4 := lt_mod hm b
  have p0 := Int.mul_nonneg h3.1 h4.1
  have p1 : a % m * (b % m) < 18446744073709551616 * m := by
    have e1 : a % m * (b % m) ≤ a % m * m := Int.mul_le_mul_of_nonneg_left (by omega) h3.1
    have e2 : a % m * m < 18446744073709551616 * m := Int.mul_lt_mul_of_pos_right (by omega) (by omega)
    omega
  have q0 : 0 ≤ a % m * (b % m) / 18446744073709551616 := Int.ediv_nonneg p0 (by decide)
  have q1 : a % m * (b % m) / 18446744073709551616 < m := Int.ediv_lt_of_lt_mul (by decide) (by rw [Int.mul_comm m]; exact p1)
  have r0 : 0 ≤ a % m * (b % m) % 18446744073709551616 := Int.emod_nonneg _ (by decide)
  have r1 : a % m * (b % m) % 18446744073709551616 < 18446744073709551616 := Int.emod_lt_of_pos _ (by decide)
  have e : (a % m * (b % m) / 18446744073709551616 * 18446744073709551616 + a % m * (b % m) % 18446744073709551616) % m = a * b % m := by
    rw [Int.mul_comm _ 18446744073709551616, Int.mul_ediv_add_emod, ← Int.mul_emod]
  have c1 := math_bits_Mul64_c (a := a % m) (b := b % m) ⟨h3.1, by omega⟩ ⟨h4.1, by omega⟩
  have c2 := math_bits_Div64_c (y := m) q0 q1 r0 r1 (by omega)
  rw [e] at c2
  clear p0 p1
  refine Fn.enter Tryd.func18 Tryd.ntmps18 rfl (h := ?_)
  repeat refine AW.seq ?_
  refine AW.reg ?_
  iterate 1 refine AOL.s1 (h := ?_)
  refine AOL.nil ?_
  refine AW.kq [0, 1, 2] (h := ?_)
  repeat refine AW.seq ?_
  refine AW.reg ?_
  iterate 1 refine AOL.s1 (h := ?_)
  refine AOL.callD rfl (modular_no_c hm) (by kernel_rfl) rfl rfl (h := ?_)
  refine AOL.nil ?_
  refine AW.kq [0, 1, 2, 12] (h := ?_)
  repeat refine AW.seq ?_
  refine AW.cond rfl (fun c_ => ?_) (fun c_ => ?_)
  · cases c_
  refine AW.skip ?_
  repeat refine AW.seq ?_
  refine AW.drw 11 [] (by kernel_rfl) (h := ?_)
  refine ADL.dm 6 (h := ?_)
  refine ADL.call rfl (c1) (by kernel_rfl) rfl rfl (h := ?_)
  refine ADL.dm 4 (h := ?_)
  refine ADL.done hmix rfl rfl (hT := ?_)
  iterate 1 refine AOL.s1 (h := ?_)
  refine AOL.nil ?_
  refine AW.kq [0, 7, 8] (h := ?_)
  repeat refine AW.seq ?_
  refine AW.reg ?_
  iterate 3 refine AOL.s1 (h := ?_)
  refine AOL.callD rfl (c2) (by kernel_rfl) rfl rfl (h := ?_)
  iterate 5 refine AOL.s1 (h := ?_)
  refine AOL.nil ?_
  refine AW.kq [10] (h := ?_)
  repeat refine AW.seq ?_
  refine AW.reg ?_
  iterate 2 refine AOL.s1 (h := ?_)
  refine AOL.nil ?_
  refine AW.kq [6] (h := ?_)
  repeat refine AW.seq ?_
  refine AW.ret ?_
  refine ⟨_, [], rfl, HOk.nil _, ?_⟩
  simp only [one?]
theorem obolref01_Mul_c {m a b : Int} (hm : 0 < m ∧ m < 18446744073709551616) (ha : w64 a) (hb : w64 b) : Fn Tryd.prog 41 [u m, u a, u b] [] (fun r _ => r = u (a * b % m)) := by
  have h0 : ¬ m = 0 := by omega
  have h5 := tmod_nn (m := m) ha.1
  have h6 := tmod_nn (m := m) hb.1
  have h3 : 0 ≤ a % m ∧ a % m < m := ⟨Int.emod_nonneg a (by omega), Int.emod_lt_of_pos a (by omega)⟩
  have h4 : 0 ≤ b % m ∧ b % m < m := ⟨Int.emod_nonneg b (by omega), Int.emod_lt_of_pos b (by omega)⟩
  have goal : a * b % m = (a % m) * (b % m) % m := Int.mul_emod a b m
  rw [goal]
  clear goal
  refine Fn.enter Tryd.func41 Tryd.ntmps41 rfl (h := ?_)
  repeat refine AW.seq ?_
  refine AW.reg ?_
  iterate 1 refine AOL.s1 (h := ?_)
  refine AOL.nil ?_
  refine AW.kq [0, 1, 2] (h := ?_)
  repeat refine AW.seq ?_
  refine AW.reg ?_
  iterate 4 refine AOL.s1 (h := ?_)
  refine AOL.nil ?_
  refine AW.kq [0, 2, 7] (h := ?_)
  repeat refine AW.seq ?_
  refine AW.reg ?_
  iterate 4 refine AOL.s1 (h := ?_)
  refine AOL.nil ?_
  refine AW.kq [0, 7, 8] (h := ?_)
  clear h5 h6 ha hb
  generalize a % m = x at *
  generalize b % m = y at *
  repeat refine AW.seq ?_
  refine AW.reg ?_
  iterate 1 refine AOL.s1 (h := ?_)
  refine AOL.nil ?_
  refine AW.kq [0, 7, 8, 9] (h := ?_)
  repeat refine AW.seq ?_
  refine AW.reg ?_
  iterate 1 refine AOL.s1 (h := ?_)
  refine AOL.nil ?_
  refine AW.kq [0, 7, 8, 9, 10] (h := ?_)
  repeat refine AW.seq ?_
  refine AW.block ?_
  repeat refine AW.seq ?_
  refine AW.loopK [0, 7, 8, 9, 10] (fun n s => ∃ (k : Nat) (o : Int), s = ⟨54, [(0, u m), (7, u x), (8, u y), (9, u o), (10, i k)], []⟩ ∧ k + n = 64 ∧ (0 ≤ o ∧ o < m) ∧ o = x * (y / 2 ^ (64 - k)) % m) 64 ?_ ?_
  · exact ⟨0, 0, rfl, rfl, by omega, by rw [zero_high ⟨h4.1, by omega⟩, Int.mul_zero, Int.zero_emod]⟩
  rintro n s ⟨k, o, rfl, hk, ho1, ho⟩
  have ho2 : id (o = x * (y / 2 ^ (64 - k)) % m) := ho
  clear ho
  repeat refine AW.seq ?_
  refine AW.reg ?_
  iterate 2 refine AOL.s1 (h := ?_)
  refine AOL.nil ?_
  refine AW.kq [0, 7, 8, 9, 10, 18] (h := ?_)
  repeat refine AW.seq ?_
  refine AW.cond rfl (fun c_ => ?_) (fun c_ => ?_)
  · have hk1 : k < 64 := by simp at c_; omega
    have k1 : IntKind.i64.wrap (63 - (k : Int)) = ((63 - k : Nat) : Int) := by rw [wrapI_o (by omega) (by omega)]; omega
    have k2 : IntKind.i64.wrap ((k : Int) + 1) = ((k + 1 : Nat) : Int) := by rw [wrapI_o (by omega) (by omega)]; omega
    have k3 : ¬ ((63 - k : Nat) : Int) < 0 := by omega
    obtain ⟨sh1, sh2⟩ := shr_b (y := y) (k := 63 - k) ⟨h4.1, by omega⟩ (by omega)
    have sh3 := and_one sh2.1 sh2.2
    obtain ⟨t, q, ht, hq, hq', st⟩ := bits_step' y k hk1
    rw [hq] at sh1 sh2 sh3
    have ho2 : o = x * (y / 2 ^ (64 - k)) % m := ho2
    rw [ht] at ho2
    have goalq : x * (y / 2 ^ (64 - (k + 1))) % m = x * q % m := by rw [hq']
    clear ht hq hq'
    have e2 := emod_twice ho1.1 ho1.2
    have w1 : IntKind.u64.wrap (m - o) = m - o := wrapU_o (by omega) (by omega)
    have w2 : IntKind.u64.wrap (m - x) = m - x := wrapU_o (by omega) (by omega)
    have hz0 : 0 ≤ 2 * o % m := Int.emod_nonneg _ (by omega)
    have hz1 : 2 * o % m < m := Int.emod_lt_of_pos _ (by omega)
    have hzz : 2 * o % m = x * (2 * t) % m := by
      rw [ho2, Int.mul_emod, Int.emod_emod_of_dvd _ (Int.dvd_refl m), ← Int.mul_emod]; congr 1; rw [Int.mul_left_comm]
    have e3 := emod_plus hz0 hz1 h3.1 h3.2
    have hid : id (2 * o % m = x * (2 * t) % m) := hzz
    have hid2 : id (q = 2 * t + q % 2) := st
    clear hzz ho2 st
    refine AW.skip ?_
    repeat refine AW.seq ?_
    refine AW.block ?_
    repeat refine AW.seq ?_
    refine AW.reg ?_
    iterate 5 refine AOL.s1 (h := ?_)
    refine AOL.nil ?_
    refine AW.kq [0, 7, 8, 9, 10, 25] (h := ?_)
    repeat refine AW.seq ?_
    refine AW.midK [0, 7, 8, 9, 10] (fun t => ∃ z, t = ⟨54, [(0, u m), (7, u x), (8, u y), (9, u z), (10, i k)], []⟩ ∧ z = 2 * o % m) ?_ ?_
    · refine AW.cond rfl (fun d_ => ?_) (fun d_ => ?_)
      · have d1 : o ≥ m - o := by simpa using d_
        have w3 : IntKind.u64.wrap (o - (m - o)) = o - (m - o) := wrapU_o (by omega) (by omega)
        repeat refine AW.seq ?_
        refine AW.reg ?_
        iterate 6 refine AOL.s1 (h := ?_)
        refine AOL.nil ?_
        rw [if_pos d1] at e2
        exact ⟨_, rfl, e2⟩
      · have d1 : ¬ o ≥ m - o := by simpa using d_
        have w3 : IntKind.u64.wrap (o + o) = o + o := wrapU_o (by omega) (by omega)
        repeat refine AW.seq ?_
        refine AW.reg ?_
        iterate 4 refine AOL.s1 (h := ?_)
        refine AOL.nil ?_
        rw [if_neg d1] at e2
        exact ⟨_, rfl, e2⟩
    rintro t' ⟨z, rfl, hz⟩
    rw [← hz] at hz0 hz1 e3 hid
    clear hz e2
    repeat refine AW.seq ?_
    refine AW.reg ?_
    iterate 6 refine AOL.s1 (h := ?_)
    refine AOL.nil ?_
    refine AW.kq [0, 7, 8, 9, 10, 39] (h := ?_)
    repeat refine AW.seq ?_
    refine AW.midK [0, 7, 8, 9, 10] (fun t' => ∃ z', t' = ⟨54, [(0, u m), (7, u x), (8, u y), (9, u z'), (10, i k)], []⟩ ∧ z' = x * q % m) ?_ ?_
    · refine AW.cond rfl (fun d_ => ?_) (fun d_ => ?_)
      · have d1 : q % 2 = 1 := by simpa using d_
        have tgt : (z + x) % m = x * q % m := by
          have st : q = 2 * t + q % 2 := hid2
          have hzz : z = x * (2 * t) % m := hid
          rw [st, d1, Int.mul_add, Int.mul_one, hzz, Int.add_emod, Int.emod_emod_of_dvd _ (Int.dvd_refl m), ← Int.add_emod]
        repeat refine AW.seq ?_
        refine AW.reg ?_
        iterate 5 refine AOL.s1 (h := ?_)
        refine AOL.nil ?_
        refine AW.kq [0, 7, 8, 9, 10, 44] (h := ?_)
        repeat refine AW.seq ?_
        refine AW.cond rfl (fun f_ => ?_) (fun f_ => ?_)
        · have f1 : z ≥ m - x := by simpa using f_
          have w3 : IntKind.u64.wrap (z - (m - x)) = z - (m - x) := wrapU_o (by omega) (by omega)
          repeat refine AW.seq ?_
          refine AW.reg ?_
          iterate 6 refine AOL.s1 (h := ?_)
          refine AOL.nil ?_
          rw [if_pos f1] at e3
          exact ⟨_, rfl, e3.trans tgt⟩
        · have f1 : ¬ z ≥ m - x := by simpa using f_
          have w3 : IntKind.u64.wrap (z + x) = z + x := wrapU_o (by omega) (by omega)
          repeat refine AW.seq ?_
          refine AW.reg ?_
          iterate 4 refine AOL.s1 (h := ?_)
          refine AOL.nil ?_
          rw [if_neg f1] at e3
          exact ⟨_, rfl, e3.trans tgt⟩
      · have d1 : ¬ q % 2 = 1 := by simpa using d_
        refine AW.skip ?_
        refine ⟨_, rfl, ?_⟩
        have st : q = 2 * t + q % 2 := hid2
        have hzz : z = x * (2 * t) % m := hid
        rw [st, show q % 2 = 0 by omega, Int.add_zero]; exact hzz
    rintro t' ⟨z', rfl, hz'⟩
    rw [← goalq] at hz'
    have hz2 : id (z' = x * (y / 2 ^ (64 - (k + 1))) % m) := hz'
    have hz3 : 0 ≤ z' ∧ z' < m := by rw [hz']; exact ⟨Int.emod_nonneg _ (by omega), Int.emod_lt_of_pos _ (by omega)⟩
    clear hz' goalq hid hid2
    repeat refine AW.seq ?_
    refine AW.reg ?_
    iterate 3 refine AOL.s1 (h := ?_)
    refine AOL.nil ?_
    exact ⟨n - 1, by omega, k + 1, z', rfl, by omega, hz3, hz2⟩
  have hk64 : k = 64 := by simp at c_; omega
  subst hk64
  repeat refine AW.seq ?_
  refine AW.exit ?_
  repeat (first | refine Kseq.ex ?_ | refine Kloop.ex ?_ | refine Kblock.miss (by decide) ?_)
  refine Kblock.hit ?_
  refine AW.kq [9] (h := ?_)
  repeat refine AW.seq ?_
  refine AW.reg ?_
  iterate 2 refine AOL.s1 (h := ?_)
  refine AOL.nil ?_
  refine AW.kq [6] (h := ?_)
  repeat refine AW.seq ?_
  refine AW.ret ?_
  refine ⟨_, [], rfl, HOk.nil _, ?_⟩
  have ho : o = x * (y / 2 ^ (64 - 64)) % m := ho2
  simp only [one?]
  rw [ho, Nat.sub_self, Int.pow_zero, Int.ediv_one]
end Go.Proofs.YtjeafkodcmbabaaDoor.E.M

