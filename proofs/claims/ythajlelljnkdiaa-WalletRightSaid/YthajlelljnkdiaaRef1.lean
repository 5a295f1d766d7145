/- obolref01: contracts over E. -/
import Derived.Test.YthajlelljnkdiaaNum0
import Derived.Test.YthajlelljnkdiaaProg
import Derived.KernelRfl
set_option linter.unusedVariables false
set_option linter.unusedSimpArgs false
set_option maxRecDepth 10000
open Go Go.Proofs.Ythajlelljnkdiaa.E Go.Proofs
namespace Go.Proofs.Ythajlelljnkdiaa.E.M
theorem obolref01_Add_c {m a b : Int} (hm : 0 < m ∧ m < 18446744073709551616) (ha : w64 a) (hb : w64 b) : Fn Try.prog 36 [u m, u a, u b] [] (fun r _ => r = u ((a + b) % m)) := by
  have h0 : ¬ m = 0 := by omega
  have h3 : 0 ≤ a % m ∧ a % m < m := ⟨Int.emod_nonneg a (by omega), Int.emod_lt_of_pos a (by omega)⟩
  have h4 : 0 ≤ b % m ∧ b % m < m := ⟨Int.emod_nonneg b (by omega), Int.emod_lt_of_pos b (by omega)⟩
  have h5 := tmod_nn (m := m) ha.1
  have h6 := tmod_nn (m := m) hb.1
  refine Fn.enter Try.func36 Try.ntmps36 rfl (h := ?_)
  repeat refine AW.seq ?_
  refine AW.reg ?_
  iterate 1 refine AOL.s1 (h := ?_)
  refine AOL.nil ?_
  refine AW.kq [0, 1, 2] (h := ?_)
  repeat refine AW.seq ?_
  refine AW.reg ?_
  iterate 4 refine AOL.s1 (h := ?_)
  refine AOL.nil ?_
  refine AW.kq [0, 2, 7] (h := ?_)
  repeat refine AW.seq ?_
  refine AW.reg ?_
  iterate 4 refine AOL.s1 (h := ?_)
  refine AOL.nil ?_
  refine AW.kq [0, 7, 8] (h := ?_)
  repeat refine AW.seq ?_
  refine AW.reg ?_
  iterate 5 refine AOL.o1 (h := ?_)
  refine AOL.nil ?_
  refine AW.kq [0, 7, 8, 19] (h := ?_)
  repeat refine AW.seq ?_
  have key : (if a % m ≥ m - b % m then a % m - (m - b % m) else a % m + b % m) = (a + b) % m := by
    rw [Int.add_emod a b m]
    split
    · rw [show a % m + b % m = (a % m - (m - b % m)) + m by omega, Int.add_emod_right, Int.emod_eq_of_lt (a := a % m - (m - b % m)) (by omega) (by omega)]
    · rw [Int.emod_eq_of_lt (a := a % m + b % m) (by omega) (by omega)]
  refine AW.cond rfl (fun c_ => ?_) (fun c_ => ?_)
  · have c1 : a % m ≥ m - b % m := by simpa using c_
    repeat refine AW.seq ?_
    refine AW.reg ?_
    iterate 6 refine AOL.o1 (h := ?_)
    refine AOL.nil ?_
    refine AW.kq [6] (h := ?_)
    repeat refine AW.seq ?_
    refine AW.ret ?_
    refine ⟨_, [], rfl, HOk.nil _, ?_⟩
    rw [if_pos c1] at key
    simp only [one?, key]
  have c1 : ¬ a % m ≥ m - b % m := by simpa using c_
  refine AW.skip ?_
  repeat refine AW.seq ?_
  refine AW.reg ?_
  iterate 4 refine AOL.o1 (h := ?_)
  refine AOL.nil ?_
  refine AW.kq [6] (h := ?_)
  repeat refine AW.seq ?_
  refine AW.ret ?_
  refine ⟨_, [], rfl, HOk.nil _, ?_⟩
  rw [if_neg c1] at key
  simp only [one?, key]


theorem obolref01_Mul_c {m a b : Int} (hm : 0 < m ∧ m < 18446744073709551616) (ha : w64 a) (hb : w64 b) : Fn Try.prog 46 [u m, u a, u b] [] (fun r _ => r = u (a * b % m)) := by
  have h0 : ¬ m = 0 := by omega
  have h5 := tmod_nn (m := m) ha.1
  have h6 := tmod_nn (m := m) hb.1
  have h3 : 0 ≤ a % m ∧ a % m < m := ⟨Int.emod_nonneg a (by omega), Int.emod_lt_of_pos a (by omega)⟩
  have h4 : 0 ≤ b % m ∧ b % m < m := ⟨Int.emod_nonneg b (by omega), Int.emod_lt_of_pos b (by omega)⟩
  have goal : a * b % m = (a % m) * (b % m) % m := Int.mul_emod a b m
  rw [goal]
  clear goal
  refine Fn.enter Try.func46 Try.ntmps46 rfl (h := ?_)
  repeat refine AW.seq ?_
  refine AW.reg ?_
  iterate 1 refine AOL.s1 (h := ?_)
  refine AOL.nil ?_
  refine AW.kq [0, 1, 2] (h := ?_)
  repeat refine AW.seq ?_
  refine AW.reg ?_
  iterate 4 refine AOL.s1 (h := ?_)
  refine AOL.nil ?_
  refine AW.kq [0, 2, 7] (h := ?_)
  repeat refine AW.seq ?_
  refine AW.reg ?_
  iterate 4 refine AOL.s1 (h := ?_)
  refine AOL.nil ?_
  refine AW.kq [0, 7, 8] (h := ?_)
  clear h5 h6 ha hb
  generalize a % m = x at *
  generalize b % m = y at *
  repeat refine AW.seq ?_
  refine AW.reg ?_
  iterate 1 refine AOL.s1 (h := ?_)
  refine AOL.nil ?_
  refine AW.kq [0, 7, 8, 9] (h := ?_)
  repeat refine AW.seq ?_
  refine AW.reg ?_
  iterate 1 refine AOL.s1 (h := ?_)
  refine AOL.nil ?_
  refine AW.kq [0, 7, 8, 9, 10] (h := ?_)
  repeat refine AW.seq ?_
  refine AW.block ?_
  repeat refine AW.seq ?_
  refine AW.loopK [0, 7, 8, 9, 10] (fun n s => ∃ (k : Nat) (o : Int), s = ⟨54, [(0, u m), (7, u x), (8, u y), (9, u o), (10, i k)], []⟩ ∧ k + n = 64 ∧ (0 ≤ o ∧ o < m) ∧ o = x * (y / 2 ^ (64 - k)) % m) 64 ?_ ?_
  · exact ⟨0, 0, rfl, rfl, by omega, by rw [zero_high ⟨h4.1, by omega⟩, Int.mul_zero, Int.zero_emod]⟩
  rintro n s ⟨k, o, rfl, hk, ho1, ho⟩
  have ho2 : id (o = x * (y / 2 ^ (64 - k)) % m) := ho
  clear ho
  repeat refine AW.seq ?_
  refine AW.reg ?_
  iterate 2 refine AOL.s1 (h := ?_)
  refine AOL.nil ?_
  refine AW.kq [0, 7, 8, 9, 10, 18] (h := ?_)
  repeat refine AW.seq ?_
  refine AW.cond rfl (fun c_ => ?_) (fun c_ => ?_)
  · have hk1 : k < 64 := by simp at c_; omega
    have k1 : IntKind.i64.wrap (63 - (k : Int)) = ((63 - k : Nat) : Int) := by rw [wrapI_o (by omega) (by omega)]; omega
    have k2 : IntKind.i64.wrap ((k : Int) + 1) = ((k + 1 : Nat) : Int) := by rw [wrapI_o (by omega) (by omega)]; omega
    have k3 : ¬ ((63 - k : Nat) : Int) < 0 := by omega
    obtain ⟨sh1, sh2⟩ := shr_b (y := y) (k := 63 - k) ⟨h4.1, by omega⟩ (by omega)
    have sh3 := and_one sh2.1 sh2.2
    obtain ⟨t, q, ht, hq, hq', st⟩ := bits_step' y k hk1
    rw [hq] at sh1 sh2 sh3
    have ho2 : o = x * (y / 2 ^ (64 - k)) % m := ho2
    rw [ht] at ho2
    have goalq : x * (y / 2 ^ (64 - (k + 1))) % m = x * q % m := by rw [hq']
    clear ht hq hq'
    have e2 := emod_twice ho1.1 ho1.2
    have w1 : IntKind.u64.wrap (m - o) = m - o := wrapU_o (by omega) (by omega)
    have w2 : IntKind.u64.wrap (m - x) = m - x := wrapU_o (by omega) (by omega)
    have hz0 : 0 ≤ 2 * o % m := Int.emod_nonneg _ (by omega)
    have hz1 : 2 * o % m < m := Int.emod_lt_of_pos _ (by omega)
    have hzz : 2 * o % m = x * (2 * t) % m := by
      rw [ho2, Int.mul_emod, Int.emod_emod_of_dvd _ (Int.dvd_refl m), ← Int.mul_emod]; congr 1; rw [Int.mul_left_comm]
    have e3 := emod_plus hz0 hz1 h3.1 h3.2
    have hid : id (2 * o % m = x * (2 * t) % m) := hzz
    have hid2 : id (q = 2 * t + q % 2) := st
    clear hzz ho2 st
    refine AW.skip ?_
    repeat refine AW.seq ?_
    refine AW.block ?_
    repeat refine AW.seq ?_
    refine AW.reg ?_
    iterate 5 refine AOL.s1 (h := ?_)
    refine AOL.nil ?_
    refine AW.kq [0, 7, 8, 9, 10, 25] (h := ?_)
    repeat refine AW.seq ?_
    refine AW.midK [0, 7, 8, 9, 10] (fun t => ∃ z, t = ⟨54, [(0, u m), (7, u x), (8, u y), (9, u z), (10, i k)], []⟩ ∧ z = 2 * o % m) ?_ ?_
    · refine AW.cond rfl (fun d_ => ?_) (fun d_ => ?_)
      · have d1 : o ≥ m - o := by simpa using d_
        have w3 : IntKind.u64.wrap (o - (m - o)) = o - (m - o) := wrapU_o (by omega) (by omega)
        repeat refine AW.seq ?_
        refine AW.reg ?_
        iterate 6 refine AOL.s1 (h := ?_)
        refine AOL.nil ?_
        rw [if_pos d1] at e2
        exact ⟨_, rfl, e2⟩
      · have d1 : ¬ o ≥ m - o := by simpa using d_
        have w3 : IntKind.u64.wrap (o + o) = o + o := wrapU_o (by omega) (by omega)
        repeat refine AW.seq ?_
        refine AW.reg ?_
        iterate 4 refine AOL.s1 (h := ?_)
        refine AOL.nil ?_
        rw [if_neg d1] at e2
        exact ⟨_, rfl, e2⟩
    rintro t' ⟨z, rfl, hz⟩
    rw [← hz] at hz0 hz1 e3 hid
    clear hz e2
    repeat refine AW.seq ?_
    refine AW.reg ?_
    iterate 6 refine AOL.s1 (h := ?_)
    refine AOL.nil ?_
    refine AW.kq [0, 7, 8, 9, 10, 39] (h := ?_)
    repeat refine AW.seq ?_
    refine AW.midK [0, 7, 8, 9, 10] (fun t' => ∃ z', t' = ⟨54, [(0, u m), (7, u x), (8, u y), (9, u z'), (10, i k)], []⟩ ∧ z' = x * q % m) ?_ ?_
    · refine AW.cond rfl (fun d_ => ?_) (fun d_ => ?_)
      · have d1 : q % 2 = 1 := by simpa using d_
        have tgt : (z + x) % m = x * q % m := by
          have st : q = 2 * t + q % 2 := hid2
          have hzz : z = x * (2 * t) % m := hid
          rw [st, d1, Int.mul_add, Int.mul_one, hzz, Int.add_emod, Int.emod_emod_of_dvd _ (Int.dvd_refl m), ← Int.add_emod]
        repeat refine AW.seq ?_
        refine AW.reg ?_
        iterate 5 refine AOL.s1 (h := ?_)
        refine AOL.nil ?_
        refine AW.kq [0, 7, 8, 9, 10, 44] (h := ?_)
        repeat refine AW.seq ?_
        refine AW.cond rfl (fun f_ => ?_) (fun f_ => ?_)
        · have f1 : z ≥ m - x := by simpa using f_
          have w3 : IntKind.u64.wrap (z - (m - x)) = z - (m - x) := wrapU_o (by omega) (by omega)
          repeat refine AW.seq ?_
          refine AW.reg ?_
          iterate 6 refine AOL.s1 (h := ?_)
          refine AOL.nil ?_
          rw [if_pos f1] at e3
          exact ⟨_, rfl, e3.trans tgt⟩
        · have f1 : ¬ z ≥ m - x := by simpa using f_
          have w3 : IntKind.u64.wrap (z + x) = z + x := wrapU_o (by omega) (by omega)
          repeat refine AW.seq ?_
          refine AW.reg ?_
          iterate 4 refine AOL.s1 (h := ?_)
          refine AOL.nil ?_
          rw [if_neg f1] at e3
          exact ⟨_, rfl, e3.trans tgt⟩
      · have d1 : ¬ q % 2 = 1 := by simpa using d_
        refine AW.skip ?_
        refine ⟨_, rfl, ?_⟩
        have st : q = 2 * t + q % 2 := hid2
        have hzz : z = x * (2 * t) % m := hid
        rw [st, show q % 2 = 0 by omega, Int.add_zero]; exact hzz
    rintro t' ⟨z', rfl, hz'⟩
    rw [← goalq] at hz'
    have hz2 : id (z' = x * (y / 2 ^ (64 - (k + 1))) % m) := hz'
    have hz3 : 0 ≤ z' ∧ z' < m := by rw [hz']; exact ⟨Int.emod_nonneg _ (by omega), Int.emod_lt_of_pos _ (by omega)⟩
    clear hz' goalq hid hid2
    repeat refine AW.seq ?_
    refine AW.reg ?_
    iterate 3 refine AOL.s1 (h := ?_)
    refine AOL.nil ?_
    exact ⟨n - 1, by omega, k + 1, z', rfl, by omega, hz3, hz2⟩
  have hk64 : k = 64 := by simp at c_; omega
  subst hk64
  repeat refine AW.seq ?_
  refine AW.exit ?_
  repeat (first | refine Kseq.ex ?_ | refine Kloop.ex ?_ | refine Kblock.miss (by decide) ?_)
  refine Kblock.hit ?_
  refine AW.kq [9] (h := ?_)
  repeat refine AW.seq ?_
  refine AW.reg ?_
  iterate 2 refine AOL.s1 (h := ?_)
  refine AOL.nil ?_
  refine AW.kq [6] (h := ?_)
  repeat refine AW.seq ?_
  refine AW.ret ?_
  refine ⟨_, [], rfl, HOk.nil _, ?_⟩
  have ho : o = x * (y / 2 ^ (64 - 64)) % m := ho2
  simp only [one?]
  rw [ho, Nat.sub_self, Int.pow_zero, Int.ediv_one]
theorem obolref01_Pow_c {m a e : Int} (hm : 0 < m ∧ m < 18446744073709551616) (ha : w64 a) (he : w64 e) : Fn Try.prog 55 [u m, u a, u e] [] (fun r _ => r = u (ipow m a e)) := by
  have h0 : ¬ m = 0 := by omega
  have h1 : (1:Int).tmod m = 1 % m := tmod_nn (by decide)
  refine Fn.enter Try.func55 Try.ntmps55 rfl (h := ?_)
  repeat refine AW.seq ?_
  refine AW.reg ?_
  iterate 1 refine AOL.s1 (h := ?_)
  refine AOL.nil ?_
  refine AW.kq [0, 1, 2] (h := ?_)
  repeat refine AW.seq ?_
  refine AW.reg ?_
  iterate 3 refine AOL.s1 (h := ?_)
  refine AOL.nil ?_
  refine AW.kq [0, 1, 2, 7] (h := ?_)
  repeat refine AW.seq ?_
  refine AW.reg ?_
  iterate 1 refine AOL.s1 (h := ?_)
  refine AOL.nil ?_
  refine AW.kq [0, 1, 2, 7, 8] (h := ?_)
  clear h1
  repeat refine AW.seq ?_
  refine AW.block ?_
  repeat refine AW.seq ?_
  refine AW.loopK [0, 1, 2, 7, 8] (fun n s => ∃ (k : Nat) (o : Int), s = ⟨30, [(0, u m), (1, u a), (2, u e), (7, u o), (8, i k)], []⟩ ∧ k + n = 64 ∧ (0 ≤ o ∧ o < m) ∧ id (o = a ^ (e / 2 ^ (64 - k)).toNat % m)) 64 ?_ ?_
  · refine ⟨0, _, rfl, rfl, ⟨Int.emod_nonneg _ (by omega), Int.emod_lt_of_pos _ (by omega)⟩, ?_⟩
    show 1 % m = a ^ (e / 2 ^ (64 - 0)).toNat % m
    rw [zero_high he]; simp
  rintro n s ⟨k, o, rfl, hk, ho1, ho2⟩
  repeat refine AW.seq ?_
  refine AW.reg ?_
  iterate 2 refine AOL.s1 (h := ?_)
  refine AOL.nil ?_
  refine AW.kq [0, 1, 2, 7, 8, 12] (h := ?_)
  repeat refine AW.seq ?_
  refine AW.cond rfl (fun c_ => ?_) (fun c_ => ?_)
  · have hk1 : k < 64 := by simp at c_; omega
    have k1 : IntKind.i64.wrap (63 - (k : Int)) = ((63 - k : Nat) : Int) := by rw [wrapI_o (by omega) (by omega)]; omega
    have k2 : IntKind.i64.wrap ((k : Int) + 1) = ((k + 1 : Nat) : Int) := by rw [wrapI_o (by omega) (by omega)]; omega
    have k3 : ¬ ((63 - k : Nat) : Int) < 0 := by omega
    obtain ⟨sh1, sh2⟩ := shr_b (y := e) (k := 63 - k) he (by omega)
    have sh3 := and_one sh2.1 sh2.2
    obtain ⟨t, q, ht, hq, hq', st⟩ := bits_step' e k hk1
    have e0 : 0 ≤ e / 2 ^ (64 - k) := Int.ediv_nonneg he.1 (Int.le_of_lt (Int.pow_pos (by decide)))
    rw [hq] at sh1 sh2 sh3
    have ho2 : o = a ^ (e / 2 ^ (64 - k)).toNat % m := ho2
    rw [ht] at ho2 e0
    have goalq : a ^ (e / 2 ^ (64 - (k + 1))).toNat % m = a ^ q.toNat % m := by rw [hq']
    clear ht hq hq'
    obtain ⟨t2, t21⟩ := toNat_two e0
    have sq : o * o % m = a ^ (2 * t.toNat) % m := by
      rw [ho2, ← Int.mul_emod, ← Int.pow_add, Nat.two_mul]
    have s0 := Int.emod_nonneg (o * o) (b := m) (by omega)
    have s1 := Int.emod_lt_of_pos (o * o) hm.1
    have cS := obolref01_Mul_c hm (a := o) (b := o) ⟨ho1.1, by omega⟩ ⟨ho1.1, by omega⟩
    have cA := obolref01_Mul_c hm (a := o * o % m) (b := a) ⟨s0, by omega⟩ ha
    have hid : id (o * o % m = a ^ (2 * t.toNat) % m) := sq
    have hid2 : id (q = 2 * t + q % 2) := st
    have hid3 : id ((2 * t).toNat = 2 * t.toNat ∧ (2 * t + 1).toNat = 2 * t.toNat + 1) := ⟨t2, t21⟩
    clear sq ho2 st t2 t21
    refine AW.skip ?_
    repeat refine AW.seq ?_
    refine AW.block ?_
    repeat refine AW.seq ?_
    refine AW.reg ?_
    iterate 3 refine AOL.s1 (h := ?_)
    refine AOL.callD rfl (cS) (by kernel_rfl) rfl rfl (h := ?_)
    iterate 1 refine AOL.s1 (h := ?_)
    refine AOL.nil ?_
    refine AW.kq [0, 1, 2, 7, 8] (h := ?_)
    repeat refine AW.seq ?_
    refine AW.reg ?_
    iterate 6 refine AOL.s1 (h := ?_)
    refine AOL.nil ?_
    refine AW.kq [0, 1, 2, 7, 8, 24] (h := ?_)
    repeat refine AW.seq ?_
    refine AW.midK [0, 1, 2, 7, 8] (fun t' => ∃ z', t' = ⟨30, [(0, u m), (1, u a), (2, u e), (7, u z'), (8, i k)], []⟩ ∧ z' = a ^ q.toNat % m) ?_ ?_
    · refine AW.cond rfl (fun d_ => ?_) (fun d_ => ?_)
      · have d1 : q % 2 = 1 := by simpa using d_
        repeat refine AW.seq ?_
        refine AW.reg ?_
        iterate 3 refine AOL.s1 (h := ?_)
        refine AOL.callD rfl (cA) (by kernel_rfl) rfl rfl (h := ?_)
        iterate 1 refine AOL.s1 (h := ?_)
        refine AOL.nil ?_
        refine ⟨_, rfl, ?_⟩
        have sq : o * o % m = a ^ (2 * t.toNat) % m := hid
        have st : q = 2 * t + q % 2 := hid2
        have t21 := (show _ ∧ _ from hid3).2
        rw [st, d1, sq, t21, Int.pow_succ, Int.mul_emod, Int.emod_emod_of_dvd _ (Int.dvd_refl m), ← Int.mul_emod]
      · have d1 : ¬ q % 2 = 1 := by simpa using d_
        refine AW.skip ?_
        refine ⟨_, rfl, ?_⟩
        have sq : o * o % m = a ^ (2 * t.toNat) % m := hid
        have st : q = 2 * t + q % 2 := hid2
        have t2 := (show _ ∧ _ from hid3).1
        rw [st, show q % 2 = 0 by omega, sq, Int.add_zero, t2]
    rintro t' ⟨z', rfl, hz'⟩
    rw [← goalq] at hz'
    have hz2 : id (z' = a ^ (e / 2 ^ (64 - (k + 1))).toNat % m) := hz'
    have hz3 : 0 ≤ z' ∧ z' < m := by rw [hz']; exact ⟨Int.emod_nonneg _ (by omega), Int.emod_lt_of_pos _ hm.1⟩
    clear hz' goalq hid hid2 hid3
    repeat refine AW.seq ?_
    refine AW.reg ?_
    iterate 3 refine AOL.s1 (h := ?_)
    refine AOL.nil ?_
    exact ⟨n - 1, by omega, k + 1, z', rfl, by omega, hz3, hz2⟩
  have hk64 : k = 64 := by simp at c_; omega
  subst hk64
  repeat refine AW.seq ?_
  refine AW.exit ?_
  repeat (first | refine Kseq.ex ?_ | refine Kloop.ex ?_ | refine Kblock.miss (by decide) ?_)
  refine Kblock.hit ?_
  refine AW.kq [7] (h := ?_)
  repeat refine AW.seq ?_
  refine AW.reg ?_
  iterate 2 refine AOL.s1 (h := ?_)
  refine AOL.nil ?_
  refine AW.kq [6] (h := ?_)
  repeat refine AW.seq ?_
  refine AW.ret ?_
  refine ⟨_, [], rfl, HOk.nil _, ?_⟩
  have ho : o = a ^ (e / 2 ^ (64 - 64)).toNat % m := ho2
  simp only [one?]
  rw [ho, Nat.sub_self, Int.pow_zero, Int.ediv_one, ipow_eq (by omega) ha.1 he]
end Go.Proofs.Ythajlelljnkdiaa.E.M

