/- Div64 is division; Mul64 and LeadingZeros64: contracts over E. -/
import Derived.Test.YtjeafkodcmbabaaDoorModA
import Derived.Test.YtjeafkodcmbabaaDoorShB
import Derived.Test.YtjeafkodcmbabaaDoorProg
import Derived.KernelRfl
set_option linter.unusedVariables false
set_option linter.unusedSimpArgs false
set_option maxRecDepth 10000
open Go Go.Proofs.YtjeafkodcmbabaaDoor.E Go.Proofs
namespace Go.Proofs.YtjeafkodcmbabaaDoor.E.M
theorem wu64 (n : Int) : IntKind.u64.wrap n = n % 18446744073709551616 := by simp [IntKind.wrap, IntKind.bits, IntKind.signed]
/-- what is so in a digit's loop -/
structure Dig (Y y1 y0 u a q : Int) : Prop where
  hY : Y = y1 * 4294967296 + y0
  y1l : 2147483648 ≤ y1
  y1h : y1 < 4294967296
  y0l : 0 ≤ y0
  y0h : y0 < 4294967296
  ul : 0 ≤ u
  uh : u < Y
  al : 0 ≤ a
  ah : a < 4294967296
  ql : 0 ≤ q
  lo : q * Y ≤ u * 4294967296 + a
  hi : u * 4294967296 + a < q * Y + Y

theorem Dig.qh {Y y1 y0 u a q : Int} (d : Dig Y y1 y0 u a q) : q < 4294967296 := by
  obtain ⟨hY, y1l, y1h, y0l, y0h, ul, uh, al, ah, ql, lo, hi⟩ := d
  have h : q * Y < 4294967296 * Y := by omega
  exact Int.lt_of_mul_lt_mul_right h (by omega)

theorem Dig.prod {Y y1 y0 u a q : Int} (d : Dig Y y1 y0 u a q) (x : Int) : x * Y = x * y1 * 4294967296 + x * y0 := by
  rw [d.hY, Int.mul_add, Int.mul_assoc]

theorem mul_lt_KK {x y : Int} (h0 : 0 ≤ x) (h1 : x < 4294967296) (h2 : 0 ≤ y) (h3 : y < 4294967296) : 0 ≤ x * y ∧ x * y ≤ 18446744065119617025 := by
  refine ⟨Int.mul_nonneg h0 h2, ?_⟩
  have := Int.mul_le_mul (a := x) (b := y) (c := 4294967295) (d := 4294967295) (by omega) (by omega) h2 (by omega)
  omega

theorem more_than {Y y1 y0 u a q : Int} (d : Dig Y y1 y0 u a q) {x r : Int} (hx : q + 1 ≤ x) (hr : x * y1 + r = u) : r * 4294967296 + a < x * y0 := by
  have p := d.prod x
  have h : (q + 1) * Y ≤ x * Y := Int.mul_le_mul_of_nonneg_right hx (by have := d.hY; have := d.y1l; have := d.y0l; omega)
  have e : (q + 1) * Y = q * Y + Y := by rw [Int.add_mul, Int.one_mul]
  have hi := d.hi
  have : u * 4294967296 = x * y1 * 4294967296 + r * 4294967296 := by rw [← hr, Int.add_mul]
  omega

theorem bitLenAux_spec : ∀ (f x : Nat), x < 2 ^ f → x < 2 ^ Lib.bitLenAux f x ∧ (x ≠ 0 → 0 < Lib.bitLenAux f x ∧ 2 ^ (Lib.bitLenAux f x - 1) ≤ x)
  | 0, x, h => by
    have : x = 0 := by simpa using h
    subst this; simp [Lib.bitLenAux]
  | f + 1, x, h => by
    simp only [Lib.bitLenAux]
    split
    · rename_i h0; subst h0; simp
    · rename_i h0
      have ih := bitLenAux_spec f (x / 2) (by rw [Nat.pow_succ] at h; omega)
      refine ⟨?_, fun _ => ⟨by omega, ?_⟩⟩
      · rw [Nat.add_comm, Nat.pow_succ]; omega
      · rw [Nat.add_sub_cancel_left]
        by_cases hx : x / 2 = 0
        · rw [hx]
          have : Lib.bitLenAux f 0 = 0 := by cases f <;> simp [Lib.bitLenAux]
          rw [this]; simp; omega
        · obtain ⟨hp, hl⟩ := ih.2 hx
          have : 2 ^ Lib.bitLenAux f (x / 2) = 2 * 2 ^ (Lib.bitLenAux f (x / 2) - 1) := by
            rw [← Nat.pow_succ']; congr 1; omega
          omega

/-- the divisor, shifted up to its highest bit -/
theorem norm_shift (y : Int) (h0 : 0 < y) (h1 : y < 18446744073709551616) :
    ∃ (s : Nat) (T U : Int), (64 - (Lib.bitLen y.toNat : Int)) = s ∧ s < 64 ∧ T = 2 ^ s ∧ U = 2 ^ (64 - s) ∧ 0 < T ∧ 0 < U ∧ T * U = 18446744073709551616 ∧ 9223372036854775808 ≤ y * T ∧ y * T < 18446744073709551616 := by
  obtain ⟨n, rfl⟩ := Int.eq_ofNat_of_zero_le (Int.le_of_lt h0)
  have hn : n < 2 ^ 64 := by omega
  have hb := bitLenAux_spec 64 n hn
  have hle := Lib.bitLen_le n 64 (Nat.le_refl _) hn
  have hs := hb.2 (by omega)
  rw [Int.toNat_natCast]
  generalize hB : Lib.bitLen n = B at *
  have hB' : Lib.bitLenAux 64 n = B := hB
  rw [hB'] at hb hs
  refine ⟨64 - B, 2 ^ (64 - B), 2 ^ (64 - (64 - B)), by omega, by omega, rfl, rfl, Int.pow_pos (by decide), Int.pow_pos (by decide), ?_, ?_, ?_⟩
  · rw [← Int.pow_add, show 64 - B + (64 - (64 - B)) = 64 by omega]; decide
  · have h2 : 2 ^ (B - 1) * 2 ^ (64 - B) ≤ n * 2 ^ (64 - B) := Nat.mul_le_mul_right _ hs.2
    rw [← Nat.pow_add, show B - 1 + (64 - B) = 63 by omega] at h2
    have : ((2 ^ 63 : Nat) : Int) ≤ ((n * 2 ^ (64 - B) : Nat) : Int) := by exact_mod_cast h2
    simpa using this
  · have h2 : n * 2 ^ (64 - B) < 2 ^ B * 2 ^ (64 - B) := Nat.mul_lt_mul_of_pos_right hb.1 (Nat.two_pow_pos _)
    rw [← Nat.pow_add, show B + (64 - B) = 64 by omega] at h2
    have : ((n * 2 ^ (64 - B) : Nat) : Int) < ((2 ^ 64 : Nat) : Int) := by exact_mod_cast h2
    simpa using this

theorem div_of {N y Q r : Int} (hy : 0 < y) (h : N = Q * y + r) (h0 : 0 ≤ r) (h1 : r < y) : N / y = Q ∧ N % y = r := by
  subst h
  constructor
  · rw [Int.add_comm, Int.add_mul_ediv_right _ _ (by omega), Int.ediv_eq_zero_of_lt h0 h1]; omega
  · rw [Int.add_comm, Int.add_mul_emod_self_right, Int.emod_eq_of_lt h0 h1]


theorem and_low {x : Int} (h0 : 0 ≤ x) (h1 : x < 18446744073709551616) : IntKind.u64.wrap ((BitVec.ofInt IntKind.u64.bits x &&& BitVec.ofInt IntKind.u64.bits 4294967295).toNat : Int) = x % 4294967296 := by
  obtain ⟨n, rfl⟩ := Int.eq_ofNat_of_zero_le h0
  have h2 : (BitVec.ofInt IntKind.u64.bits (n:Int) &&& BitVec.ofInt IntKind.u64.bits 4294967295).toNat = n % 4294967296 := by
    rw [BitVec.toNat_and, BitVec.toNat_ofInt, BitVec.toNat_ofInt]
    have e1 : ((n:Int) % ((2 ^ IntKind.u64.bits : Nat) : Int)).toNat = n := by simp only [IntKind.bits]; omega
    have e2 : ((4294967295:Int) % ((2 ^ IntKind.u64.bits : Nat) : Int)).toNat = 2 ^ 32 - 1 := by decide
    rw [e1, e2, Nat.and_two_pow_sub_one_eq_mod]
  rw [h2, wrapU_o (by omega) (by omega)]; omega
theorem and_one {x : Int} (h0 : 0 ≤ x) (h1 : x < 18446744073709551616) : IntKind.u64.wrap ((BitVec.ofInt IntKind.u64.bits x &&& BitVec.ofInt IntKind.u64.bits 1).toNat : Int) = x % 2 := by
  obtain ⟨n, rfl⟩ := Int.eq_ofNat_of_zero_le h0
  have h2 : (BitVec.ofInt IntKind.u64.bits (n:Int) &&& BitVec.ofInt IntKind.u64.bits 1).toNat = n % 2 := by
    rw [BitVec.toNat_and, BitVec.toNat_ofInt, BitVec.toNat_ofInt]
    have e1 : ((n:Int) % ((2 ^ IntKind.u64.bits : Nat) : Int)).toNat = n := by simp only [IntKind.bits]; omega
    have e2 : ((1:Int) % ((2 ^ IntKind.u64.bits : Nat) : Int)).toNat = 1 := by decide
    rw [e1, e2, Nat.and_one_is_mod]
  rw [h2, wrapU_o (by omega) (by omega)]; omega
theorem or_join {T a b : Int} (s : Nat) (hs : s < 64) (hT : T = 2 ^ s) (h0 : 0 ≤ a) (h1 : a * T + b < 18446744073709551616) (hb0 : 0 ≤ b) (hb : b < T) : IntKind.u64.wrap ((BitVec.ofInt IntKind.u64.bits (a * T) ||| BitVec.ofInt IntKind.u64.bits b).toNat : Int) = a * T + b := by
  obtain ⟨n, rfl⟩ := Int.eq_ofNat_of_zero_le h0
  obtain ⟨m, rfl⟩ := Int.eq_ofNat_of_zero_le hb0
  have hT' : T = ((2 ^ s : Nat) : Int) := by rw [hT]; exact (Int.natCast_pow 2 s).symm
  rw [hT'] at h1 hb ⊢
  have hb' : m < 2 ^ s := Int.ofNat_lt.1 hb
  rw [← Int.natCast_mul] at h1 ⊢
  have hor : n * 2 ^ s + m = n * 2 ^ s ||| m := by rw [Nat.mul_comm n, ← Nat.two_pow_add_eq_or_of_lt hb']
  generalize n * 2 ^ s = k at *
  have e1 : ((k:Int) % ((2 ^ IntKind.u64.bits : Nat) : Int)).toNat = k := by simp only [IntKind.bits]; omega
  have e2 : ((m:Int) % ((2 ^ IntKind.u64.bits : Nat) : Int)).toNat = m := by simp only [IntKind.bits]; omega
  have h2 : (BitVec.ofInt IntKind.u64.bits (k:Int) ||| BitVec.ofInt IntKind.u64.bits (m:Int)).toNat = k + m := by
    rw [BitVec.toNat_or, BitVec.toNat_ofInt, BitVec.toNat_ofInt, e1, e2, hor]
  rw [h2, wrapU_o (by omega) (by omega)]; omega
theorem shr32 {x : Int} (h0 : 0 ≤ x) : x.fdiv (2 ^ min (Int.toNat 32) IntKind.u64.bits) = x / 4294967296 := by
  rw [show (2:Int) ^ min (Int.toNat 32) IntKind.u64.bits = 4294967296 by decide, Int.fdiv_eq_ediv_of_nonneg _ (by decide)]
theorem dig_test0 {Y y1 y0 u a q r : Int} (d : Dig Y y1 y0 u a q) (r0 : 0 ≤ r) (r1 : r < 4294967296) (hr : q * y1 + r = u) : (decide (q ≥ 4294967296) || decide (IntKind.u64.wrap (q * y0) > IntKind.u64.wrap (IntKind.u64.wrap (4294967296 * r) + a))) = false := by
  have qh := d.qh
  have ql := d.ql
  have hlo := d.lo
  have p := d.prod q
  have m := mul_lt_KK ql qh d.y0l d.y0h
  have e : u * 4294967296 = q * y1 * 4294967296 + r * 4294967296 := by rw [← hr, Int.add_mul]
  have al := d.al
  have ah := d.ah
  have w1 : IntKind.u64.wrap (q * y0) = q * y0 := wrapU_o m.1 (by omega)
  have w2 : IntKind.u64.wrap (4294967296 * r) = 4294967296 * r := wrapU_o (by omega) (by omega)
  have w3 : IntKind.u64.wrap (4294967296 * r + a) = 4294967296 * r + a := wrapU_o (by omega) (by omega)
  rw [w1, w2, w3, Bool.or_eq_false_iff]
  constructor <;> simp <;> omega
theorem dig_test1 {Y y1 y0 u a q x r : Int} {n : Nat} (d : Dig Y y1 y0 u a q) (hx : q + (n + 1 : Nat) = x) (r0 : 0 ≤ r) (r1 : r < 4294967296) (hr : x * y1 + r = u) :
    (decide (x ≥ 4294967296) || decide (IntKind.u64.wrap (x * y0) > IntKind.u64.wrap (IntKind.u64.wrap (4294967296 * r) + a))) = true := by
  have ql := d.ql
  have qh := d.qh
  have mt := more_than d (x := x) (r := r) (by omega) hr
  have al := d.al
  have ah := d.ah
  by_cases hb : x ≥ 4294967296
  · simp [hb]
  · have m := mul_lt_KK (x := x) (y := y0) (by omega) (by omega) d.y0l d.y0h
    have w1 : IntKind.u64.wrap (x * y0) = x * y0 := wrapU_o m.1 (by omega)
    have w2 : IntKind.u64.wrap (4294967296 * r) = 4294967296 * r := wrapU_o (by omega) (by omega)
    have w3 : IntKind.u64.wrap (4294967296 * r + a) = 4294967296 * r + a := wrapU_o (by omega) (by omega)
    rw [w1, w2, w3]; simp; omega
theorem dig_next {Y y1 y0 u a q x r : Int} {n : Nat} (d : Dig Y y1 y0 u a q) (hY : Y < 18446744073709551616) (hx : q + (n + 1 : Nat) = x) (r0 : 0 ≤ r) (r1 : r < 4294967296) (hr : x * y1 + r = u) :
    IntKind.u64.wrap (x - 1) = x - 1 ∧ IntKind.u64.wrap (r + y1) = r + y1 ∧ (x - 1) * y1 + (r + y1) = u ∧ (r + y1 ≥ 4294967296 → n = 0) := by
  have ql := d.ql
  have y1l := d.y1l
  have y1h := d.y1h
  have e1 : (x - 1) * y1 + (r + y1) = u := by rw [Int.sub_mul, Int.one_mul]; omega
  have xlt : x < 18446744073709551616 := by
    have ul := d.uh
    by_cases h : x < 18446744073709551616
    · exact h
    · exfalso
      have := Int.mul_le_mul (a := 18446744073709551616) (b := 1) (c := x) (d := y1) (by omega) (by omega) (by omega) (by omega)
      omega
  refine ⟨wrapU_o (by omega) (by omega), wrapU_o (by omega) (by omega), e1, fun hb => ?_⟩
  by_cases hn : n = 0
  · exact hn
  exfalso
  have mt' := more_than d (x := x - 1) (r := r + y1) (by omega) e1
  have xl : x - 1 < 4294967296 := by
    have uh := d.uh
    have hY := d.hY
    have y0h := d.y0h
    have : (x - 1) * y1 < 4294967296 * y1 := by omega
    exact Int.lt_of_mul_lt_mul_right this (by omega)
  have m := mul_lt_KK (x := x - 1) (y := y0) (by omega) xl d.y0l d.y0h
  have al := d.al
  omega
theorem math_bits_Mul64_c {a b : Int} (ha : w64 a) (hb : w64 b) : Fn Tryd.prog 33 [u a, u b] [] (fun r _ => r = .tup [u (a * b / 18446744073709551616), u (a * b % 18446744073709551616)]) := by
  obtain ⟨x, rfl⟩ := Int.eq_ofNat_of_zero_le ha.1
  obtain ⟨y, rfl⟩ := Int.eq_ofNat_of_zero_le hb.1
  refine Fn.ofCalls (args := [.int .u64 x, .int .u64 y]) (v := .tuple #[.int .u64 (x * y / 18446744073709551616), .int .u64 (x * y % 18446744073709551616)]) ?_ rfl ?_
  · intro ρ F w vs h
    simp only [VRs, VR] at h
    obtain ⟨_, _, rfl, rfl, _, _, rfl, rfl, rfl⟩ := h; rfl
  · exact fun w => (Tryd.bits_Mul64 x y (by omega) (by omega) w).mono fun e w' h => by
      obtain ⟨rfl, rfl⟩ := h
      exact ⟨by simp, .refl _ _⟩
theorem math_bits_LeadingZeros64_c {a : Int} (ha : w64 a) : Fn Tryd.prog 48 [u a] [] (fun r _ => r = i (64 - (Lib.bitLen a.toNat : Int))) := by
  refine Fn.ofCalls (args := [.int .u64 a]) (v := .int .i64 (64 - (Lib.bitLen a.toNat : Int))) ?_ rfl ?_
  · intro ρ F w vs h
    simp only [VRs, VR] at h
    obtain ⟨_, _, rfl, rfl, rfl⟩ := h; rfl
  · exact fun w => (Tryd.bits_LeadingZeros64 a w ha.1 (by omega)).mono fun e w' h => by
      obtain ⟨rfl, rfl⟩ := h
      exact ⟨rfl, .refl _ _⟩

set_option maxHeartbeats 2000000 in
theorem math_bits_Div64_c {hi lo y : Int} (h0 : 0 ≤ hi) (h1 : hi < y) (h2 : 0 ≤ lo) (h3 : lo < 18446744073709551616) (h4 : y < 18446744073709551616) : Fn Tryd.prog 34 [u hi, u lo, u y] [] (fun r _ => r = .tup [u ((hi * 18446744073709551616 + lo) / y), u ((hi * 18446744073709551616 + lo) % y)]) := by
  have z1 : (y == 0) = false := by simp; omega
  have z2 : decide (y ≤ hi) = false := by simp; omega
  refine Fn.enter Tryd.func34 Tryd.ntmps34 rfl (h := ?_)
  repeat refine AW.seq ?_
  refine AW.reg ?_
  iterate 2 refine AOL.s1 (h := ?_)
  refine AOL.nil ?_
  refine AW.kq [0, 1, 2] (h := ?_)
  repeat refine AW.seq ?_
  refine AW.reg ?_
  iterate 2 refine AOL.s1 (h := ?_)
  refine AOL.nil ?_
  refine AW.kq [0, 1, 2, 20] (h := ?_)
  repeat refine AW.seq ?_
  refine AW.cond rfl (fun c_ => ?_) (fun c_ => ?_)
  · cases c_
  refine AW.skip ?_
  repeat refine AW.seq ?_
  refine AW.reg ?_
  iterate 3 refine AOL.s1 (h := ?_)
  refine AOL.nil ?_
  refine AW.kq [0, 1, 2, 24] (h := ?_)
  repeat refine AW.seq ?_
  refine AW.cond rfl (fun c_ => ?_) (fun c_ => ?_)
  · cases c_
  refine AW.skip ?_
  repeat refine AW.seq ?_
  refine AW.reg ?_
  iterate 2 refine AOL.s1 (h := ?_)
  refine AOL.nil ?_
  refine AW.kq [0, 1, 2, 27] (h := ?_)
  repeat refine AW.seq ?_
  refine AW.cond rfl (fun c_ => ?_) (fun c_ => ?_)
  · have hz : hi = 0 := by simpa using c_
    have hy : ¬ y = 0 := by omega
    repeat refine AW.seq ?_
    refine AW.drw 7 [] (by kernel_rfl) (h := ?_)
    refine ADL.dm 7 (h := ?_)
    refine ADL.done hmix rfl rfl (hT := ?_)
    iterate 1 refine AOL.s1 (h := ?_)
    refine AOL.nil ?_
    refine AW.kq [6, 7] (h := ?_)
    repeat refine AW.seq ?_
    refine AW.ret ?_
    refine ⟨_, [], rfl, HOk.nil _, ?_⟩
    have := Int.ediv_le_self y h2
    have := Int.ediv_nonneg h2 (show 0 ≤ y by omega)
    simp only [one?]
    rw [hz, Int.zero_mul, Int.zero_add, Int.tdiv_eq_ediv_of_nonneg h2, Int.tmod_eq_emod_of_nonneg h2, wrapU_o (by omega) (by omega)]
  have hz : ¬ hi = 0 := by simpa using c_
  obtain ⟨s, T, U, hs, s64, hT, hU, Tp, Up, hTU, nl, nh⟩ := norm_shift y (by omega) h4
  have ws : IntKind.u64.wrap (s : Int) = s := wrapU_o (by omega) (by omega)
  have ws' : IntKind.u64.wrap (64 - (s : Int)) = ((64 - s : Nat) : Int) := by rw [wrapU_o (by omega) (by omega)]; omega
  have n1 : ¬ (s : Int) < 0 := by omega
  have n2 : ¬ ((64 - s : Nat) : Int) < 0 := by omega
  have m1 : min s IntKind.u64.bits = s := Nat.min_eq_left (by simp [IntKind.bits]; omega)
  have m2 : min (64 - s) IntKind.u64.bits = 64 - s := Nat.min_eq_left (by simp [IntKind.bits])
  have hT0 : 0 ≤ hi * T := Int.mul_nonneg h0 (by omega)
  have hT1 : hi * T + T ≤ y * T := by
    have : (hi + 1) * T ≤ y * T := Int.mul_le_mul_of_nonneg_right (by omega) (by omega)
    rw [Int.add_mul, Int.one_mul] at this; exact this
  have sY : IntKind.u64.wrap (y * 2 ^ s) = y * T := by rw [← hT]; exact wrapU_o (by omega) nh
  have sH : IntKind.u64.wrap (hi * 2 ^ s) = hi * T := by rw [← hT]; exact wrapU_o hT0 (by omega)
  have sL : IntKind.u64.wrap (lo * 2 ^ s) = lo * T % 18446744073709551616 := by rw [← hT]; exact wu64 _
  have sR : lo.fdiv (2 ^ (64 - s)) = lo / U := by rw [← hU, Int.fdiv_eq_ediv_of_nonneg _ (by omega)]
  have loU0 : 0 ≤ lo / U := Int.ediv_nonneg h2 (by omega)
  have loU1 : lo / U < T := Int.ediv_lt_of_lt_mul Up (by rw [hTU]; exact h3)
  have join := or_join (T := T) (a := hi) (b := lo / U) s s64 hT h0 (by omega) loU0 loU1
  have hlz := math_bits_LeadingZeros64_c (a := y) ⟨by omega, h4⟩
  rw [hs] at hlz
  have hY1 := shr32 (x := y * T) (by omega)
  have hY0 := and_low (x := y * T) (by omega) nh
  have hL0 := and_low (x := lo * T % 18446744073709551616) (Int.emod_nonneg _ (by decide)) (Int.emod_lt_of_pos _ (by decide))
  have hL1 := shr32 (x := lo * T % 18446744073709551616) (Int.emod_nonneg _ (by decide))
  have hT3 : id (T = 2 ^ s) := hT
  have hU3 : id (U = 2 ^ (64 - s)) := hU
  clear hT hU
  clear z1 z2
  refine AW.skip ?_
  repeat refine AW.seq ?_
  refine AW.reg ?_
  iterate 1 refine AOL.s1 (h := ?_)
  refine AOL.callD rfl (hlz) (by kernel_rfl) rfl rfl (h := ?_)
  iterate 2 refine AOL.s1 (h := ?_)
  refine AOL.nil ?_
  refine AW.kq [0, 1, 2, 8] (h := ?_)
  repeat refine AW.seq ?_
  refine AW.reg ?_
  iterate 4 refine AOL.s1 (h := ?_)
  refine AOL.nil ?_
  refine AW.kq [0, 1, 2, 8] (h := ?_)
  repeat refine AW.seq ?_
  refine AW.reg ?_
  iterate 3 refine AOL.s1 (h := ?_)
  refine AOL.nil ?_
  refine AW.kq [0, 1, 2, 8, 9] (h := ?_)
  repeat refine AW.seq ?_
  refine AW.reg ?_
  iterate 3 refine AOL.s1 (h := ?_)
  refine AOL.nil ?_
  refine AW.kq [0, 1, 2, 8, 9, 10] (h := ?_)
  repeat refine AW.seq ?_
  refine AW.reg ?_
  iterate 9 refine AOL.s1 (h := ?_)
  refine AOL.nil ?_
  refine AW.kq [1, 2, 8, 9, 10, 11] (h := ?_)
  repeat refine AW.seq ?_
  refine AW.reg ?_
  iterate 4 refine AOL.s1 (h := ?_)
  refine AOL.nil ?_
  refine AW.kq [2, 8, 9, 10, 11, 12] (h := ?_)
  repeat refine AW.seq ?_
  refine AW.reg ?_
  iterate 3 refine AOL.s1 (h := ?_)
  refine AOL.nil ?_
  refine AW.kq [2, 8, 9, 10, 11, 12, 13] (h := ?_)
  repeat refine AW.seq ?_
  refine AW.reg ?_
  iterate 3 refine AOL.s1 (h := ?_)
  refine AOL.nil ?_
  refine AW.kq [2, 8, 9, 10, 11, 13, 14] (h := ?_)
  -- the low word
  have hT : 2 ^ s = T := hT3.symm
  have lowq : lo * T = (lo / U) * 18446744073709551616 + (lo % U) * T := by
    have := Int.mul_ediv_add_emod lo U
    conv => lhs; rw [← this]
    rw [Int.add_mul, Int.mul_right_comm, Int.mul_comm U T, hTU]; rw [Int.mul_comm]
  have lm0 : 0 ≤ lo % U := Int.emod_nonneg _ (by omega)
  have lm1 : lo % U < U := Int.emod_lt_of_pos _ Up
  have lT0 : 0 ≤ lo % U * T := Int.mul_nonneg lm0 (by omega)
  have lT1 : lo % U * T < 18446744073709551616 := by
    rw [← hTU, Int.mul_comm T U]; exact Int.mul_lt_mul_of_pos_right lm1 Tp
  have hL : lo * T % 18446744073709551616 = lo % U * T := by rw [lowq]; omega
  clear hL0 hL1 hY0 hY1 join sY sH sL sR hlz ws ws' n1 n2 m1 m2
  rw [hL]
  generalize hLL : lo % U * T = L at *
  generalize hYY : y * T = Y at *
  generalize huu : hi * T + lo / U = u0 at *
  have hN : (hi * 18446744073709551616 + lo) * T = u0 * 18446744073709551616 + L := by
    rw [Int.add_mul, lowq, ← huu, Int.add_mul, Int.mul_right_comm]; omega
  have Yp : 0 < Y := by omega
  have y1 : 2147483648 ≤ Y / 4294967296 := by omega
  -- the digits
  have dm1 := Int.mul_ediv_add_emod (u0 * 4294967296 + L / 4294967296) Y
  have q1n : 0 ≤ (u0 * 4294967296 + L / 4294967296) / Y := Int.ediv_nonneg (by omega) (by omega)
  have r1n := Int.emod_nonneg (u0 * 4294967296 + L / 4294967296) (b := Y) (by omega)
  have r1h := Int.emod_lt_of_pos (u0 * 4294967296 + L / 4294967296) Yp
  generalize hq1 : (u0 * 4294967296 + L / 4294967296) / Y = q1 at *
  generalize hv : (u0 * 4294967296 + L / 4294967296) % Y = v at *
  have dm0 := Int.mul_ediv_add_emod (v * 4294967296 + L % 4294967296) Y
  have q0n : 0 ≤ (v * 4294967296 + L % 4294967296) / Y := Int.ediv_nonneg (by omega) (by omega)
  have r0n := Int.emod_nonneg (v * 4294967296 + L % 4294967296) (b := Y) (by omega)
  have r0h := Int.emod_lt_of_pos (v * 4294967296 + L % 4294967296) Yp
  generalize hq0 : (v * 4294967296 + L % 4294967296) / Y = q0 at *
  generalize hr0 : (v * 4294967296 + L % 4294967296) % Y = r0 at *
  rw [Int.mul_comm] at dm1 dm0
  have D1 : Dig Y (Y / 4294967296) (Y % 4294967296) u0 (L / 4294967296) q1 :=
    ⟨by omega, y1, by omega, by omega, by omega, by omega, by omega, by omega, by omega, q1n, by omega, by omega⟩
  have D0 : Dig Y (Y / 4294967296) (Y % 4294967296) v (L % 4294967296) q0 :=
    ⟨by omega, y1, by omega, by omega, by omega, r1n, r1h, by omega, by omega, q0n, by omega, by omega⟩
  have q1h := D1.qh
  have q0h := D0.qh
  -- the rest, shifted back
  have tot : (hi * 18446744073709551616 + lo) * T = (q1 * 4294967296 + q0) * Y + r0 := by
    rw [hN, Int.add_mul, Int.mul_right_comm]; omega
  have rdiv : r0 = (hi * 18446744073709551616 + lo - (q1 * 4294967296 + q0) * y) * T := by
    rw [Int.sub_mul, tot, Int.mul_assoc _ y T, hYY]; omega
  generalize hr : hi * 18446744073709551616 + lo - (q1 * 4294967296 + q0) * y = rr at *
  have rr0 : 0 ≤ rr := by
    rcases Int.lt_or_le rr 0 with h | h
    · have := Int.mul_neg_of_neg_of_pos h Tp; omega
    · exact h
  have rr1 : rr < y := by
    have : rr * T < y * T := by omega
    exact Int.lt_of_mul_lt_mul_right this (by omega)
  obtain ⟨ed, em⟩ := div_of (N := hi * 18446744073709551616 + lo) (y := y) (Q := q1 * 4294967296 + q0) (r := rr) (by omega) (by omega) rr0 rr1
  rw [ed, em]
  -- the estimates
  have est : ∀ {x c q : Int}, Dig Y (Y / 4294967296) (Y % 4294967296) x c q → ∃ n : Nat, x / (Y / 4294967296) = q + n := by
    intro x c q d
    have hp := d.prod q
    have hle : q * (Y / 4294967296) ≤ x := by
      have := d.lo
      have := d.ah
      have := Int.mul_nonneg d.ql d.y0l
      omega
    have : q ≤ x / (Y / 4294967296) := (Int.le_ediv_iff_mul_le (by omega)).2 hle
    exact ⟨(x / (Y / 4294967296) - q).toNat, by omega⟩
  obtain ⟨n1, hn1'⟩ := est D1
  obtain ⟨n0, hn0'⟩ := est D0
  have hn1 := hn1'.symm
  have hn0 := hn0'.symm
  clear hn1' hn0'
  have wdiv : ∀ {x : Int}, 0 ≤ x → x < Y → IntKind.u64.wrap (Int.tdiv x (Y / 4294967296)) = x / (Y / 4294967296) ∧ IntKind.u64.wrap (x - IntKind.u64.wrap (x / (Y / 4294967296) * (Y / 4294967296))) = x % (Y / 4294967296) := by
    intro x x0 x1
    have a := Int.ediv_nonneg (a := x) (b := Y / 4294967296) x0 (by omega)
    have b := Int.ediv_le_self (Y / 4294967296) x0
    have c := Int.mul_ediv_add_emod x (Y / 4294967296)
    have e := Int.emod_nonneg x (b := Y / 4294967296) (by omega)
    have f := Int.emod_lt_of_pos x (b := Y / 4294967296) (by omega)
    rw [Int.mul_comm] at c
    rw [Int.tdiv_eq_ediv_of_nonneg x0]
    have g : 0 ≤ x / (Y / 4294967296) * (Y / 4294967296) := Int.mul_nonneg a (by omega)
    refine ⟨wrapU_o a (by omega), ?_⟩
    rw [wrapU_o g (by omega), wrapU_o (by omega) (by omega)]; omega
  have W1 := wdiv D1.ul D1.uh
  have W0 := wdiv D0.ul D0.uh
  have V1 : u0 / (Y / 4294967296) * (Y / 4294967296) + u0 % (Y / 4294967296) = u0 := by have := Int.mul_ediv_add_emod u0 (Y / 4294967296); rw [Int.mul_comm] at this; exact this
  have V0 : v / (Y / 4294967296) * (Y / 4294967296) + v % (Y / 4294967296) = v := by have := Int.mul_ediv_add_emod v (Y / 4294967296); rw [Int.mul_comm] at this; exact this
  have R1 : 0 ≤ u0 % (Y / 4294967296) ∧ u0 % (Y / 4294967296) < 4294967296 := ⟨Int.emod_nonneg _ (by omega), by have := Int.emod_lt_of_pos u0 (b := Y / 4294967296) (by omega); omega⟩
  have R0 : 0 ≤ v % (Y / 4294967296) ∧ v % (Y / 4294967296) < 4294967296 := ⟨Int.emod_nonneg _ (by omega), by have := Int.emod_lt_of_pos v (b := Y / 4294967296) (by omega); omega⟩
  have wv : IntKind.u64.wrap (IntKind.u64.wrap (IntKind.u64.wrap (u0 * 4294967296) + L / 4294967296) - IntKind.u64.wrap (q1 * Y)) = v := by
    simp only [wu64]; omega
  have wo : IntKind.u64.wrap (IntKind.u64.wrap (q1 * 4294967296) + q0) = q1 * 4294967296 + q0 := by simp only [wu64]; omega
  have wr : (IntKind.u64.wrap (IntKind.u64.wrap (IntKind.u64.wrap (v * 4294967296) + L % 4294967296) - IntKind.u64.wrap (q0 * Y))).fdiv (2 ^ min s IntKind.u64.bits) = rr := by
    have : IntKind.u64.wrap (IntKind.u64.wrap (IntKind.u64.wrap (v * 4294967296) + L % 4294967296) - IntKind.u64.wrap (q0 * Y)) = rr * T := by simp only [wu64]; omega
    rw [this, Nat.min_eq_left (by simp [IntKind.bits]; omega), hT, Int.fdiv_eq_ediv_of_nonneg _ (by omega), Int.mul_ediv_cancel _ (by omega)]
  have hYl : Y < 18446744073709551616 := nh
  have y1n : ¬ Y / 4294967296 = 0 := by omega
  have sn : ¬ (s : Int) < 0 := by omega
  have W11 := W1.1; have W12 := W1.2; have W01 := W0.1; have W02 := W0.2
  clear wdiv est hr rdiv tot W1 W0 hN
  generalize hA : Y / 4294967296 = A at *
  generalize hB : Y % 4294967296 = B at *
  generalize hC : L / 4294967296 = C at *
  generalize hD : L % 4294967296 = E at *
  generalize u0 / A = X1 at *
  generalize u0 % A = X2 at *
  generalize v / A = X3 at *
  generalize v % A = X4 at *
  clear hA hB hC hD lowq hLL hYY huu hq1 hv hq0 hr0 hTU hL ed em
  repeat refine AW.seq ?_
  refine AW.reg ?_
  iterate 4 refine AOL.s1 (h := ?_)
  refine AOL.nil ?_
  refine AW.kq [2, 8, 9, 10, 11, 13, 14, 15] (h := ?_)
  repeat refine AW.seq ?_
  refine AW.reg ?_
  iterate 6 refine AOL.s1 (h := ?_)
  refine AOL.nil ?_
  refine AW.kq [2, 8, 9, 10, 11, 13, 14, 15, 16] (h := ?_)
  repeat refine AW.seq ?_
  refine AW.midK [2, 8, 9, 10, 11, 13, 14, 15] (fun t => t = ⟨135, [(2, u Y), (8, u s), (9, u A), (10, u B), (11, u u0), (13, u C), (14, u E), (15, u q1)], []⟩) ?_ ?_
  · refine AW.block ?_
    repeat refine AW.seq ?_
    refine AW.loopK [2, 8, 9, 10, 11, 13, 14, 15, 16] (fun n t => ∃ x r : Int, t = ⟨135, [(2, u Y), (8, u s), (9, u A), (10, u B), (11, u u0), (13, u C), (14, u E), (15, u x), (16, u r)], []⟩ ∧ q1 + n = x ∧ 0 ≤ r ∧ r < 4294967296 ∧ x * A + r = u0) n1 ?_ ?_
    · exact ⟨_, _, rfl, hn1, R1.1, R1.2, V1⟩
    rintro n t ⟨x, r, rfl, hx, r0, r1, hx2⟩
    repeat refine AW.seq ?_
    refine AW.reg ?_
    iterate 3 refine AOL.s1 (h := ?_)
    refine AOL.kq [2, 8, 9, 10, 11, 13, 14, 15, 16, 69] (h := ?_)
    refine AOL.or 69 78 (os' := ?_) (x := ?_) (h1 := ?_) (h0 := ?_) (h := ?_)
    rotate_left 2
    iterate 2
      · intro hb_ K' hK; (iterate 9 refine AOL.s1 (h := ?_)); refine AOL.kq [2, 8, 9, 10, 11, 13, 14, 15, 16, 78] (h := ?_); exact hK
    refine AOL.nil ?_
    refine AW.kq [2, 8, 9, 10, 11, 13, 14, 15, 16, 78] (h := ?_)
    repeat refine AW.seq ?_
    cases n with
    | zero =>
      have hxq : x = q1 := by omega
      subst hxq
      have t0 := dig_test0 D1 r0 r1 hx2
      refine AW.cond rfl (fun c_ => ?_) (fun c_ => ?_)
      · rw [t0] at c_; cases c_
      repeat refine AW.seq ?_
      refine AW.exit ?_
      repeat (first | refine Kseq.ex ?_ | refine Kloop.ex ?_ | refine Kblock.miss (by decide) ?_)
      refine Kblock.hit ?_
      rfl
    | succ n =>
      have t1 := dig_test1 D1 hx r0 r1 hx2
      obtain ⟨wx, wy, e1, last⟩ := dig_next D1 hYl hx r0 r1 hx2
      refine AW.cond rfl (fun c_ => ?_) (fun c_ => ?_)
      · refine AW.skip ?_
        repeat refine AW.seq ?_
        refine AW.block ?_
        repeat refine AW.seq ?_
        refine AW.reg ?_
        iterate 3 refine AOL.s1 (h := ?_)
        refine AOL.nil ?_
        refine AW.kq [2, 8, 9, 10, 11, 13, 14, 15, 16] (h := ?_)
        repeat refine AW.seq ?_
        refine AW.reg ?_
        iterate 4 refine AOL.s1 (h := ?_)
        refine AOL.nil ?_
        refine AW.kq [2, 8, 9, 10, 11, 13, 14, 15, 16] (h := ?_)
        repeat refine AW.seq ?_
        refine AW.reg ?_
        iterate 2 refine AOL.s1 (h := ?_)
        refine AOL.nil ?_
        refine AW.kq [2, 8, 9, 10, 11, 13, 14, 15, 16, 85] (h := ?_)
        repeat refine AW.seq ?_
        refine AW.cond rfl (fun d_ => ?_) (fun d_ => ?_)
        · have h0 : n = 0 := last (by simpa using d_)
          repeat refine AW.seq ?_
          refine AW.exit ?_
          repeat (first | refine Kseq.ex ?_ | refine Kloop.ex ?_ | refine Kblock.miss (by decide) ?_)
          refine Kblock.hit ?_
          have : x - 1 = q1 := by omega
          rw [this]; rfl
        have d1 : ¬ r + A ≥ 4294967296 := by simpa using d_
        refine AW.skip ?_
        have := D1.y1l
        exact ⟨n, by omega, x - 1, r + A, rfl, by omega, by omega, by omega, e1⟩
      · rw [t1] at c_; cases c_
  rintro t rfl
  repeat refine AW.seq ?_
  refine AW.reg ?_
  iterate 9 refine AOL.s1 (h := ?_)
  refine AOL.nil ?_
  refine AW.kq [2, 8, 9, 10, 14, 15, 17] (h := ?_)
  repeat refine AW.seq ?_
  refine AW.reg ?_
  iterate 4 refine AOL.s1 (h := ?_)
  refine AOL.nil ?_
  refine AW.kq [2, 8, 9, 10, 14, 15, 17, 18] (h := ?_)
  repeat refine AW.seq ?_
  refine AW.reg ?_
  iterate 6 refine AOL.s1 (h := ?_)
  refine AOL.nil ?_
  refine AW.kq [2, 8, 9, 10, 14, 15, 16, 17, 18] (h := ?_)
  repeat refine AW.seq ?_
  refine AW.midK [2, 8, 14, 15, 17, 18] (fun t => t = ⟨135, [(2, u Y), (8, u s), (14, u E), (15, u q1), (17, u v), (18, u q0)], []⟩) ?_ ?_
  · refine AW.block ?_
    repeat refine AW.seq ?_
    refine AW.loopK [2, 8, 9, 10, 14, 15, 16, 17, 18] (fun n t => ∃ x r : Int, t = ⟨135, [(2, u Y), (8, u s), (9, u A), (10, u B), (14, u E), (15, u q1), (16, u r), (17, u v), (18, u x)], []⟩ ∧ q0 + n = x ∧ 0 ≤ r ∧ r < 4294967296 ∧ x * A + r = v) n0 ?_ ?_
    · exact ⟨_, _, rfl, hn0, R0.1, R0.2, V0⟩
    rintro n t ⟨x, r, rfl, hx, r0, r1, hx2⟩
    repeat refine AW.seq ?_
    refine AW.reg ?_
    iterate 3 refine AOL.s1 (h := ?_)
    refine AOL.kq [2, 8, 9, 10, 14, 15, 16, 17, 18, 104] (h := ?_)
    refine AOL.or 104 113 (os' := ?_) (x := ?_) (h1 := ?_) (h0 := ?_) (h := ?_)
    rotate_left 2
    iterate 2
      · intro hb_ K' hK; (iterate 9 refine AOL.s1 (h := ?_)); refine AOL.kq [2, 8, 9, 10, 14, 15, 16, 17, 18, 113] (h := ?_); exact hK
    refine AOL.nil ?_
    refine AW.kq [2, 8, 9, 10, 14, 15, 16, 17, 18, 113] (h := ?_)
    repeat refine AW.seq ?_
    cases n with
    | zero =>
      have hxq : x = q0 := by omega
      subst hxq
      have t0 := dig_test0 D0 r0 r1 hx2
      refine AW.cond rfl (fun c_ => ?_) (fun c_ => ?_)
      · rw [t0] at c_; cases c_
      repeat refine AW.seq ?_
      refine AW.exit ?_
      repeat (first | refine Kseq.ex ?_ | refine Kloop.ex ?_ | refine Kblock.miss (by decide) ?_)
      refine Kblock.hit ?_
      rfl
    | succ n =>
      have t1 := dig_test1 D0 hx r0 r1 hx2
      obtain ⟨wx, wy, e1, last⟩ := dig_next D0 hYl hx r0 r1 hx2
      refine AW.cond rfl (fun c_ => ?_) (fun c_ => ?_)
      · refine AW.skip ?_
        repeat refine AW.seq ?_
        refine AW.block ?_
        repeat refine AW.seq ?_
        refine AW.reg ?_
        iterate 3 refine AOL.s1 (h := ?_)
        refine AOL.nil ?_
        refine AW.kq [2, 8, 9, 10, 14, 15, 16, 17, 18] (h := ?_)
        repeat refine AW.seq ?_
        refine AW.reg ?_
        iterate 4 refine AOL.s1 (h := ?_)
        refine AOL.nil ?_
        refine AW.kq [2, 8, 9, 10, 14, 15, 16, 17, 18] (h := ?_)
        repeat refine AW.seq ?_
        refine AW.reg ?_
        iterate 2 refine AOL.s1 (h := ?_)
        refine AOL.nil ?_
        refine AW.kq [2, 8, 9, 10, 14, 15, 16, 17, 18, 120] (h := ?_)
        repeat refine AW.seq ?_
        refine AW.cond rfl (fun d_ => ?_) (fun d_ => ?_)
        · have h0 : n = 0 := last (by simpa using d_)
          repeat refine AW.seq ?_
          refine AW.exit ?_
          repeat (first | refine Kseq.ex ?_ | refine Kloop.ex ?_ | refine Kblock.miss (by decide) ?_)
          refine Kblock.hit ?_
          have : x - 1 = q0 := by omega
          rw [this]; rfl
        have d1 : ¬ r + A ≥ 4294967296 := by simpa using d_
        refine AW.skip ?_
        have := D0.y1l
        exact ⟨n, by omega, x - 1, r + A, rfl, by omega, by omega, by omega, e1⟩
      · rw [t1] at c_; cases c_
  rintro t rfl
  repeat refine AW.seq ?_
  refine AW.reg ?_
  iterate 16 refine AOL.s1 (h := ?_)
  refine AOL.nil ?_
  refine AW.kq [6, 7] (h := ?_)
  repeat refine AW.seq ?_
  refine AW.ret ?_
  refine ⟨_, [], rfl, HOk.nil _, ?_⟩
  simp only [one?]
end Go.Proofs.YtjeafkodcmbabaaDoor.E.M

