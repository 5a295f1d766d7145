/- Div64 is division: the printed Div64 tells quotient and rest wherever the high word is below the divisor. -/
import Derived.Test.YtibmidoepeghpaaZPDivx
namespace Go.Proofs.Ytibmidoepeghpaa.G
open Go.RowKit Go.Proofs.YtibmidoepeghpaaW.PrintWords Go.Proofs.YtibmidoepeghpaaW.PrintLast Go.Proofs.YtibmidoepeghpaaW.PrintMore Go.Proofs.Ytibmidoepeghpaa.PDiv

theorem wu64 (n : Int) : IntKind.u64.wrap n = n % 18446744073709551616 := by simp [IntKind.wrap, IntKind.bits, IntKind.signed]
theorem wu64_in {n : Int} (h0 : 0 ≤ n) (h1 : n < 18446744073709551616) : IntKind.u64.wrap n = n := by rw [wu64]; omega

theorem u64_and_low {x : Int} (h₀ : 0 ≤ x) (h₁ : x < 18446744073709551616) : bits .and .u64 x 4294967295 = x % 4294967296 :=
  bits_mask .u64 64 (by decide) (fun n h0 h1 => wu64_in h0 (by simpa using h1)) 32 (by decide) x h₀ (by simpa using h₁)

/-- what is so in a digit's loop -/
structure Dig (Y y1 y0 u a q : Int) : Prop where
  hY : Y = y1 * 4294967296 + y0
  y1l : 2147483648 ≤ y1
  y1h : y1 < 4294967296
  y0l : 0 ≤ y0
  y0h : y0 < 4294967296
  ul : 0 ≤ u
  uh : u < Y
  al : 0 ≤ a
  ah : a < 4294967296
  ql : 0 ≤ q
  lo : q * Y ≤ u * 4294967296 + a
  hi : u * 4294967296 + a < q * Y + Y

theorem Dig.qh {Y y1 y0 u a q : Int} (d : Dig Y y1 y0 u a q) : q < 4294967296 := by
  obtain ⟨hY, y1l, y1h, y0l, y0h, ul, uh, al, ah, ql, lo, hi⟩ := d
  have h : q * Y < 4294967296 * Y := by omega
  exact Int.lt_of_mul_lt_mul_right h (by omega)

theorem Dig.prod {Y y1 y0 u a q : Int} (d : Dig Y y1 y0 u a q) (x : Int) : x * Y = x * y1 * 4294967296 + x * y0 := by
  rw [d.hY, Int.mul_add, Int.mul_assoc]

theorem mul_lt_KK {x y : Int} (h0 : 0 ≤ x) (h1 : x < 4294967296) (h2 : 0 ≤ y) (h3 : y < 4294967296) : 0 ≤ x * y ∧ x * y ≤ 18446744065119617025 := by
  refine ⟨Int.mul_nonneg h0 h2, ?_⟩
  have := Int.mul_le_mul (a := x) (b := y) (c := 4294967295) (d := 4294967295) (by omega) (by omega) h2 (by omega)
  omega

theorem more_than {Y y1 y0 u a q : Int} (d : Dig Y y1 y0 u a q) {x r : Int} (hx : q + 1 ≤ x) (hr : x * y1 + r = u) : r * 4294967296 + a < x * y0 := by
  have p := d.prod x
  have h : (q + 1) * Y ≤ x * Y := Int.mul_le_mul_of_nonneg_right hx (by have := d.hY; have := d.y1l; have := d.y0l; omega)
  have e : (q + 1) * Y = q * Y + Y := by rw [Int.add_mul, Int.one_mul]
  have hi := d.hi
  have : u * 4294967296 = x * y1 * 4294967296 + r * 4294967296 := by rw [← hr, Int.add_mul]
  omega

theorem l0_digit {Y s y1 y0 u a b q : Int} {R : Int × Int} (d : Dig Y y1 y0 u a q) (hk : ∃ k, bits_Div64.j2 k Y s y1 y0 u a b q = some R) :
    ∀ (n : Nat) (x r : Int), x = q + n → 0 ≤ r → r < 4294967296 → x * y1 + r = u → ∃ k, bits_Div64.l0 k Y s y1 y0 u a b x r = some R := by
  intro n
  induction n with
  | zero =>
    intro x r hx r0 r1 hr
    obtain ⟨k, hk⟩ := hk
    refine ⟨k + 2, ?_⟩
    have hxq : x = q := by omega
    subst hxq
    have qh := d.qh
    have ql := d.ql
    have hlo := d.lo
    have p := d.prod x
    have m := mul_lt_KK ql qh d.y0l d.y0h
    have e : u * 4294967296 = x * y1 * 4294967296 + r * 4294967296 := by rw [← hr, Int.add_mul]
    have al := d.al
    have ah := d.ah
    have w1 : IntKind.u64.wrap (x * y0) = x * y0 := wu64_in m.1 (by omega)
    have w2 : IntKind.u64.wrap (4294967296 * r) = 4294967296 * r := wu64_in (by omega) (by omega)
    have w3 : IntKind.u64.wrap (4294967296 * r + a) = 4294967296 * r + a := wu64_in (by omega) (by omega)
    simp only [bits_Div64.l0]
    rw [if_neg (by omega), w1, w2, w3]
    simp only [bits_Div64.j1]
    rw [if_neg (by simp; omega)]
    exact hk
  | succ n ih =>
    intro x r hx r0 r1 hr
    have ql := d.ql
    have qh := d.qh
    have mt := more_than d (x := x) (r := r) (by omega) hr
    have al := d.al
    have ah := d.ah
    have y1l := d.y1l
    have y1h := d.y1h
    have e1 : (x - 1) * y1 + (r + y1) = u := by rw [Int.sub_mul, Int.one_mul]; omega
    have xlt : x < 18446744073709551616 := by
      have ul := d.uh
      have hY := d.hY
      have y0h := d.y0h
      by_cases h : x < 18446744073709551616
      · exact h
      · exfalso
        have := Int.mul_le_mul (a := 18446744073709551616) (b := 1) (c := x) (d := y1) (by omega) (by omega) (by omega) (by omega)
        omega
    have wx : IntKind.u64.wrap (x - 1) = x - 1 := wu64_in (by omega) (by omega)
    have wr : IntKind.u64.wrap (r + y1) = r + y1 := wu64_in (by omega) (by omega)
    have next : ∃ k, bits_Div64.j1 k Y s y1 y0 u a b x r true = some R := by
      by_cases hb : r + y1 ≥ 4294967296
      · have n0 : n = 0 := by
          by_cases hn : n = 0
          · exact hn
          exfalso
          have mt' := more_than d (x := x - 1) (r := r + y1) (by omega) e1
          have xl : x - 1 < 4294967296 := by
            have uh := d.uh
            have hY := d.hY
            have y0h := d.y0h
            have : (x - 1) * y1 < 4294967296 * y1 := by omega
            exact Int.lt_of_mul_lt_mul_right this (by omega)
          have m := mul_lt_KK (x := x - 1) (y := y0) (by omega) xl d.y0l d.y0h
          omega
        obtain ⟨k, hk⟩ := hk
        refine ⟨k + 1, ?_⟩
        simp only [bits_Div64.j1]
        rw [if_true, wr, wx, if_pos hb, show x - 1 = q by omega]
        exact hk
      · obtain ⟨k, hk⟩ := ih (x - 1) (r + y1) (by omega) (by omega) (by omega) e1
        refine ⟨k + 1, ?_⟩
        simp only [bits_Div64.j1]
        rw [if_true, wr, wx, if_neg hb]
        exact hk
    obtain ⟨k, hk1⟩ := next
    refine ⟨k + 1, ?_⟩
    simp only [bits_Div64.l0]
    by_cases hb : x ≥ 4294967296
    · rw [if_pos hb]; exact hk1
    · rw [if_neg hb]
      have m := mul_lt_KK (x := x) (y := y0) (by omega) (by omega) d.y0l d.y0h
      have w1 : IntKind.u64.wrap (x * y0) = x * y0 := wu64_in m.1 (by omega)
      have w2 : IntKind.u64.wrap (4294967296 * r) = 4294967296 * r := wu64_in (by omega) (by omega)
      have w3 : IntKind.u64.wrap (4294967296 * r + a) = 4294967296 * r + a := wu64_in (by omega) (by omega)
      rw [w1, w2, w3]
      have : decide (x * y0 > 4294967296 * r + a) = true := by simp; omega
      rw [this]; exact hk1

/-- the second digit, and the end -/
theorem l1_digit {Y s y1 y0 b p v q R1 R2 : Int} (d : Dig Y y1 y0 v b q) (hs : 0 ≤ s)
    (h1 : IntKind.u64.wrap (IntKind.u64.wrap (p * 4294967296) + q) = R1)
    (h2 : shr .u64 (v * 4294967296 + b - q * Y) s = R2) (hY : Y < 18446744073709551616) :
    ∀ (n : Nat) (x r : Int), x = q + n → 0 ≤ r → r < 4294967296 → x * y1 + r = v → ∃ k, bits_Div64.l1 k Y s y1 y0 b p r v x = some (R1, R2) := by
  have lo := d.lo
  have hi := d.hi
  have bl := d.al
  have bh := d.ah
  have wv : IntKind.u64.wrap (IntKind.u64.wrap (IntKind.u64.wrap (v * 4294967296) + b) - IntKind.u64.wrap (q * Y)) = v * 4294967296 + b - q * Y := by
    simp only [wu64]; omega
  intro n
  induction n with
  | zero =>
    intro x r hx r0 r1 hr
    refine ⟨2, ?_⟩
    have hxq : x = q := by omega
    subst hxq
    have qh := d.qh
    have ql := d.ql
    have hlo := d.lo
    have p := d.prod x
    have m := mul_lt_KK ql qh d.y0l d.y0h
    have e : v * 4294967296 = x * y1 * 4294967296 + r * 4294967296 := by rw [← hr, Int.add_mul]
    have w1 : IntKind.u64.wrap (x * y0) = x * y0 := wu64_in m.1 (by omega)
    have w2 : IntKind.u64.wrap (4294967296 * r) = 4294967296 * r := wu64_in (by omega) (by omega)
    have w3 : IntKind.u64.wrap (4294967296 * r + b) = 4294967296 * r + b := wu64_in (by omega) (by omega)
    simp only [bits_Div64.l1]
    rw [if_neg (by omega), w1, w2, w3]
    simp only [bits_Div64.j4]
    rw [if_neg (by simp; omega), if_pos hs, wv, h1, h2]
  | succ n ih =>
    intro x r hx r0 r1 hr
    have ql := d.ql
    have qh := d.qh
    have mt := more_than d (x := x) (r := r) (by omega) hr
    have y1l := d.y1l
    have y1h := d.y1h
    have e1 : (x - 1) * y1 + (r + y1) = v := by rw [Int.sub_mul, Int.one_mul]; omega
    have xlt : x < 18446744073709551616 := by
      have ul := d.uh
      by_cases h : x < 18446744073709551616
      · exact h
      · exfalso
        have := Int.mul_le_mul (a := 18446744073709551616) (b := 1) (c := x) (d := y1) (by omega) (by omega) (by omega) (by omega)
        omega
    have wx : IntKind.u64.wrap (x - 1) = x - 1 := wu64_in (by omega) (by omega)
    have wr : IntKind.u64.wrap (r + y1) = r + y1 := wu64_in (by omega) (by omega)
    have next : ∃ k, bits_Div64.j4 k Y s y1 y0 b p r v x true = some (R1, R2) := by
      by_cases hb : r + y1 ≥ 4294967296
      · have n0 : n = 0 := by
          by_cases hn : n = 0
          · exact hn
          exfalso
          have mt' := more_than d (x := x - 1) (r := r + y1) (by omega) e1
          have xl : x - 1 < 4294967296 := by
            have uh := d.uh
            have hY := d.hY
            have y0h := d.y0h
            have : (x - 1) * y1 < 4294967296 * y1 := by omega
            exact Int.lt_of_mul_lt_mul_right this (by omega)
          have m := mul_lt_KK (x := x - 1) (y := y0) (by omega) xl d.y0l d.y0h
          omega
        refine ⟨1, ?_⟩
        simp only [bits_Div64.j4]
        rw [if_true, wr, wx, if_pos hb, if_pos hs, show x - 1 = q by omega, wv, h1, h2]
      · obtain ⟨k, hk⟩ := ih (x - 1) (r + y1) (by omega) (by omega) (by omega) e1
        refine ⟨k + 1, ?_⟩
        simp only [bits_Div64.j4]
        rw [if_true, wr, wx, if_neg hb]
        exact hk
    obtain ⟨k, hk1⟩ := next
    refine ⟨k + 1, ?_⟩
    simp only [bits_Div64.l1]
    by_cases hb : x ≥ 4294967296
    · rw [if_pos hb]; exact hk1
    · rw [if_neg hb]
      have m := mul_lt_KK (x := x) (y := y0) (by omega) (by omega) d.y0l d.y0h
      have w1 : IntKind.u64.wrap (x * y0) = x * y0 := wu64_in m.1 (by omega)
      have w2 : IntKind.u64.wrap (4294967296 * r) = 4294967296 * r := wu64_in (by omega) (by omega)
      have w3 : IntKind.u64.wrap (4294967296 * r + b) = 4294967296 * r + b := wu64_in (by omega) (by omega)
      rw [w1, w2, w3]
      have : decide (x * y0 > 4294967296 * r + b) = true := by simp; omega
      rw [this]; exact hk1

theorem bitLenAux_spec : ∀ (f x : Nat), x < 2 ^ f → x < 2 ^ Lib.bitLenAux f x ∧ (x ≠ 0 → 0 < Lib.bitLenAux f x ∧ 2 ^ (Lib.bitLenAux f x - 1) ≤ x)
  | 0, x, h => by
    have : x = 0 := by simpa using h
    subst this; simp [Lib.bitLenAux]
  | f + 1, x, h => by
    simp only [Lib.bitLenAux]
    split
    · rename_i h0; subst h0; simp
    · rename_i h0
      have ih := bitLenAux_spec f (x / 2) (by rw [Nat.pow_succ] at h; omega)
      refine ⟨?_, fun _ => ⟨by omega, ?_⟩⟩
      · rw [Nat.add_comm, Nat.pow_succ]; omega
      · rw [Nat.add_sub_cancel_left]
        by_cases hx : x / 2 = 0
        · rw [hx]
          have : Lib.bitLenAux f 0 = 0 := by cases f <;> simp [Lib.bitLenAux]
          rw [this]; simp; omega
        · obtain ⟨hp, hl⟩ := ih.2 hx
          have : 2 ^ Lib.bitLenAux f (x / 2) = 2 * 2 ^ (Lib.bitLenAux f (x / 2) - 1) := by
            rw [← Nat.pow_succ']; congr 1; omega
          omega

/-- the divisor, shifted up to its highest bit -/
theorem norm_shift (y : Int) (h0 : 0 < y) (h1 : y < 18446744073709551616) :
    ∃ (s : Nat) (T U : Int), (64 - (Lib.bitLen y.toNat : Int)) = s ∧ s < 64 ∧ T = 2 ^ s ∧ U = 2 ^ (64 - s) ∧ 0 < T ∧ 0 < U ∧ T * U = 18446744073709551616 ∧ 9223372036854775808 ≤ y * T ∧ y * T < 18446744073709551616 := by
  obtain ⟨n, rfl⟩ := Int.eq_ofNat_of_zero_le (Int.le_of_lt h0)
  have hn : n < 2 ^ 64 := by omega
  have hb := bitLenAux_spec 64 n hn
  have hle := Lib.bitLen_le n 64 (Nat.le_refl _) hn
  have hs := hb.2 (by omega)
  rw [Int.toNat_natCast]
  generalize hB : Lib.bitLen n = B at *
  have hB' : Lib.bitLenAux 64 n = B := hB
  rw [hB'] at hb hs
  refine ⟨64 - B, 2 ^ (64 - B), 2 ^ (64 - (64 - B)), by omega, by omega, rfl, rfl, Int.pow_pos (by decide), Int.pow_pos (by decide), ?_, ?_, ?_⟩
  · rw [← Int.pow_add, show 64 - B + (64 - (64 - B)) = 64 by omega]; decide
  · have h2 : 2 ^ (B - 1) * 2 ^ (64 - B) ≤ n * 2 ^ (64 - B) := Nat.mul_le_mul_right _ hs.2
    rw [← Nat.pow_add, show B - 1 + (64 - B) = 63 by omega] at h2
    have : ((2 ^ 63 : Nat) : Int) ≤ ((n * 2 ^ (64 - B) : Nat) : Int) := by exact_mod_cast h2
    simpa using this
  · have h2 : n * 2 ^ (64 - B) < 2 ^ B * 2 ^ (64 - B) := Nat.mul_lt_mul_of_pos_right hb.1 (Nat.two_pow_pos _)
    rw [← Nat.pow_add, show B + (64 - B) = 64 by omega] at h2
    have : ((n * 2 ^ (64 - B) : Nat) : Int) < ((2 ^ 64 : Nat) : Int) := by exact_mod_cast h2
    simpa using this

theorem div_of {N y Q r : Int} (hy : 0 < y) (h : N = Q * y + r) (h0 : 0 ≤ r) (h1 : r < y) : N / y = Q ∧ N % y = r := by
  subst h
  constructor
  · rw [Int.add_comm, Int.add_mul_ediv_right _ _ (by omega), Int.ediv_eq_zero_of_lt h0 h1]; omega
  · rw [Int.add_comm, Int.add_mul_emod_self_right, Int.emod_eq_of_lt h0 h1]

theorem bits_Div64.spec (hi lo y : Int) (h0 : 0 ≤ hi) (h1 : hi < y) (h2 : 0 ≤ lo) (h3 : lo < 18446744073709551616) (h4 : y < 18446744073709551616) :
    ∃ k, PDiv.bits_Div64.f k hi lo y = some ((hi * 18446744073709551616 + lo) / y, (hi * 18446744073709551616 + lo) % y) := by
  unfold PDiv.bits_Div64.f
  simp only [if_neg (show ¬ (y = 0) by omega), if_neg (show ¬ (y ≤ hi) by omega)]
  by_cases hz : hi = 0
  · refine ⟨0, ?_⟩
    rw [if_pos hz, hz, Int.zero_mul, Int.zero_add, Int.tdiv_eq_ediv_of_nonneg h2, Int.tmod_eq_emod_of_nonneg h2, wu64_in (Int.ediv_nonneg h2 (by omega)) ?_]
    have := Int.ediv_le_self y h2
    omega
  simp only [if_neg hz]
  obtain ⟨s, T, U, hs, s64, hT, hU, Tp, Up, hTU, nl, nh⟩ := norm_shift y (by omega) h4
  have hlz : bits_LeadingZeros64.f y = some (s : Int) := by
    unfold bits_LeadingZeros64.f; rw [if_pos ⟨by omega, h4⟩, hs]
  rw [hlz]; simp only [Option.bind_some]
  have ws : IntKind.u64.wrap (s : Int) = s := wu64_in (by omega) (by omega)
  have ws' : IntKind.u64.wrap (64 - (s : Int)) = ((64 - s : Nat) : Int) := by rw [wu64_in (by omega) (by omega)]; omega
  rw [ws, ws']
  simp only [if_pos (show (0 : Int) ≤ (s : Int) by omega), if_pos (show (0 : Int) ≤ ((64 - s : Nat) : Int) by omega)]
  have sY : shl .u64 y s = y * T := by
    unfold shl; rw [Int.toNat_natCast, Nat.min_eq_left (by simp [IntKind.bits]; omega), ← hT]; exact wu64_in (by omega) nh
  have hT1 : hi * T + T ≤ y * T := by
    have : (hi + 1) * T ≤ y * T := Int.mul_le_mul_of_nonneg_right (by omega) (by omega)
    rw [Int.add_mul, Int.one_mul] at this; exact this
  have hT0 : 0 ≤ hi * T := Int.mul_nonneg h0 (by omega)
  have sH : shl .u64 hi s = hi * T := by
    unfold shl; rw [Int.toNat_natCast, Nat.min_eq_left (by simp [IntKind.bits]; omega), ← hT]; exact wu64_in hT0 (by omega)
  have sL : shl .u64 lo s = lo * T % 18446744073709551616 := by
    unfold shl; rw [Int.toNat_natCast, Nat.min_eq_left (by simp [IntKind.bits]; omega), ← hT]; exact wu64 _
  have sR : shr .u64 lo ((64 - s : Nat) : Int) = lo / U := by
    unfold shr; rw [Int.toNat_natCast, Nat.min_eq_left (by simp [IntKind.bits]), ← hU]
  have loU0 : 0 ≤ lo / U := Int.ediv_nonneg h2 (by omega)
  have loU1 : lo / U < T := Int.ediv_lt_of_lt_mul Up (by rw [hTU]; exact h3)
  rw [sY, sH, sL, sR]
  have join : bits .or .u64 (hi * T) (lo / U) = hi * T + lo / U := by
    refine bits_join .u64 64 (by decide) (fun n a b => wu64_in a (by simpa using b)) s (hi * T) (lo / U) hT0 ?_ (by simp; omega) loU0 (by rw [← hT]; exact loU1) (by simp; omega)
    rw [hT]; exact Int.mul_emod_left _ _
  rw [join]
  -- the low word
  have lowq : lo * T = (lo / U) * 18446744073709551616 + (lo % U) * T := by
    have := Int.mul_ediv_add_emod lo U
    conv => lhs; rw [← this]
    rw [Int.add_mul, Int.mul_right_comm, Int.mul_comm U T, hTU]; rw [Int.mul_comm]
  have lm0 : 0 ≤ lo % U := Int.emod_nonneg _ (by omega)
  have lm1 : lo % U < U := Int.emod_lt_of_pos _ Up
  have lT0 : 0 ≤ lo % U * T := Int.mul_nonneg lm0 (by omega)
  have lT1 : lo % U * T < 18446744073709551616 := by
    rw [← hTU, Int.mul_comm T U]; exact Int.mul_lt_mul_of_pos_right lm1 Tp
  have hL : lo * T % 18446744073709551616 = lo % U * T := by rw [lowq]; omega
  rw [hL]
  generalize hLL : lo % U * T = L at *
  generalize hYY : y * T = Y at *
  generalize huu : hi * T + lo / U = u at *
  have hN : (hi * 18446744073709551616 + lo) * T = u * 18446744073709551616 + L := by
    rw [Int.add_mul, lowq, ← huu, Int.add_mul, Int.mul_right_comm]; omega
  have Yp : 0 < Y := by omega
  have y1 : 2147483648 ≤ Y / 4294967296 := by omega
  rw [u64_and_low (by omega) (by omega), u64_and_low lT0 lT1]
  simp only [if_neg (show ¬ (Y / 4294967296 = 0) by omega)]
  -- the digits
  have dm1 := Int.mul_ediv_add_emod (u * 4294967296 + L / 4294967296) Y
  have q1n : 0 ≤ (u * 4294967296 + L / 4294967296) / Y := Int.ediv_nonneg (by omega) (by omega)
  have r1n := Int.emod_nonneg (u * 4294967296 + L / 4294967296) (b := Y) (by omega)
  have r1h := Int.emod_lt_of_pos (u * 4294967296 + L / 4294967296) Yp
  generalize hq1 : (u * 4294967296 + L / 4294967296) / Y = q1 at *
  generalize hv : (u * 4294967296 + L / 4294967296) % Y = v at *
  have dm0 := Int.mul_ediv_add_emod (v * 4294967296 + L % 4294967296) Y
  have q0n : 0 ≤ (v * 4294967296 + L % 4294967296) / Y := Int.ediv_nonneg (by omega) (by omega)
  have r0n := Int.emod_nonneg (v * 4294967296 + L % 4294967296) (b := Y) (by omega)
  have r0h := Int.emod_lt_of_pos (v * 4294967296 + L % 4294967296) Yp
  generalize hq0 : (v * 4294967296 + L % 4294967296) / Y = q0 at *
  generalize hr0 : (v * 4294967296 + L % 4294967296) % Y = r0 at *
  rw [Int.mul_comm] at dm1 dm0
  have D1 : Dig Y (Y / 4294967296) (Y % 4294967296) u (L / 4294967296) q1 :=
    ⟨by omega, y1, by omega, by omega, by omega, by omega, by omega, by omega, by omega, q1n, by omega, by omega⟩
  have D0 : Dig Y (Y / 4294967296) (Y % 4294967296) v (L % 4294967296) q0 :=
    ⟨by omega, y1, by omega, by omega, by omega, r1n, r1h, by omega, by omega, q0n, by omega, by omega⟩
  have q1h := D1.qh
  have q0h := D0.qh
  -- the rest, shifted back
  have tot : (hi * 18446744073709551616 + lo) * T = (q1 * 4294967296 + q0) * Y + r0 := by
    rw [hN, Int.add_mul, Int.mul_right_comm]; omega
  have rdiv : r0 = (hi * 18446744073709551616 + lo - (q1 * 4294967296 + q0) * y) * T := by
    rw [Int.sub_mul, tot, Int.mul_assoc _ y T, hYY]; omega
  generalize hr : hi * 18446744073709551616 + lo - (q1 * 4294967296 + q0) * y = rr at *
  have rr0 : 0 ≤ rr := by
    rcases Int.lt_or_le rr 0 with h | h
    · have := Int.mul_neg_of_neg_of_pos h Tp; omega
    · exact h
  have rr1 : rr < y := by
    have : rr * T < y * T := by omega
    exact Int.lt_of_mul_lt_mul_right this (by omega)
  obtain ⟨ed, em⟩ := div_of (N := hi * 18446744073709551616 + lo) (y := y) (Q := q1 * 4294967296 + q0) (r := rr) (by omega) (by omega) rr0 rr1
  rw [ed, em]
  -- the estimates
  have est : ∀ {x c q : Int}, Dig Y (Y / 4294967296) (Y % 4294967296) x c q → ∃ n : Nat, x / (Y / 4294967296) = q + n := by
    intro x c q d
    have hp := d.prod q
    have hle : q * (Y / 4294967296) ≤ x := by
      have := d.lo
      have := d.ah
      have := Int.mul_nonneg d.ql d.y0l
      omega
    have : q ≤ x / (Y / 4294967296) := (Int.le_ediv_iff_mul_le (by omega)).2 hle
    exact ⟨(x / (Y / 4294967296) - q).toNat, by omega⟩
  obtain ⟨n1, hn1⟩ := est D1
  obtain ⟨n0, hn0⟩ := est D0
  have wdiv : ∀ {x : Int}, 0 ≤ x → x < Y → IntKind.u64.wrap (Int.tdiv x (Y / 4294967296)) = x / (Y / 4294967296) ∧ IntKind.u64.wrap (x - IntKind.u64.wrap (x / (Y / 4294967296) * (Y / 4294967296))) = x % (Y / 4294967296) := by
    intro x x0 x1
    have a := Int.ediv_nonneg (a := x) (b := Y / 4294967296) x0 (by omega)
    have b := Int.ediv_le_self (Y / 4294967296) x0
    have c := Int.mul_ediv_add_emod x (Y / 4294967296)
    have e := Int.emod_nonneg x (b := Y / 4294967296) (by omega)
    have f := Int.emod_lt_of_pos x (b := Y / 4294967296) (by omega)
    rw [Int.mul_comm] at c
    rw [Int.tdiv_eq_ediv_of_nonneg x0]
    have g : 0 ≤ x / (Y / 4294967296) * (Y / 4294967296) := Int.mul_nonneg a (by omega)
    refine ⟨wu64_in a (by omega), ?_⟩
    rw [wu64_in g (by omega), wu64_in (by omega) (by omega)]; omega
  have base : ∃ k, bits_Div64.j2 k Y s (Y / 4294967296) (Y % 4294967296) u (L / 4294967296) (L % 4294967296) q1 = some (q1 * 4294967296 + q0, rr) := by
    have W := wdiv (x := v) r1n r1h
    obtain ⟨k, hk⟩ := l1_digit (p := q1) (R1 := q1 * 4294967296 + q0) (R2 := rr) (s := (s : Int)) D0 (by omega)
      (by simp only [wu64]; omega)
      (by
        unfold shr
        rw [Int.toNat_natCast, Nat.min_eq_left (by simp [IntKind.bits]; omega), ← hT, show v * 4294967296 + L % 4294967296 - q0 * Y = rr * T by omega]
        exact Int.mul_ediv_cancel _ (by omega))
      (by omega) n0 _ (v % (Y / 4294967296)) hn0 (Int.emod_nonneg _ (by omega)) (by have := Int.emod_lt_of_pos v (b := Y / 4294967296) (by omega); omega)
      (by have := Int.mul_ediv_add_emod v (Y / 4294967296); rw [Int.mul_comm] at this; exact this)
    refine ⟨k + 1, ?_⟩
    simp only [bits_Div64.j2]
    have wv : IntKind.u64.wrap (IntKind.u64.wrap (IntKind.u64.wrap (u * 4294967296) + L / 4294967296) - IntKind.u64.wrap (q1 * Y)) = v := by
      simp only [wu64]; omega
    rw [if_neg (by omega), wv, W.1, W.2]
    exact hk
  have W := wdiv (x := u) D1.ul D1.uh
  rw [W.1, W.2]
  exact l0_digit D1 base n1 _ (u % (Y / 4294967296)) hn1 (Int.emod_nonneg _ (by omega)) (by have := Int.emod_lt_of_pos u (b := Y / 4294967296) (by omega); omega)
    (by have := Int.mul_ediv_add_emod u (Y / 4294967296); rw [Int.mul_comm] at this; exact this)

def bits_Div64.f (a0 : Int) (a1 : Int) (a2 : Int) : Option (Int × Int) :=
  if 0 ≤ a0 ∧ a0 < a2 ∧ 0 ≤ a1 ∧ a1 < 18446744073709551616 ∧ a2 < 18446744073709551616 then some ((a0 * 18446744073709551616 + a1) / a2, (a0 * 18446744073709551616 + a1) % a2) else none

theorem bits_Div64.calls (a0 : Int) (a1 : Int) (a2 : Int) (r1 : Int) (r2 : Int) (w : World) (h : bits_Div64.f a0 a1 a2 = some (r1, r2)) :
    Calls Try.prog 74 #[.int .u64 a0, .int .u64 a1, .int .u64 a2] w fun e w' => e = .returned (.tuple #[.int .u64 r1, .int .u64 r2]) ∧ Drawn0 w w' := by
  unfold bits_Div64.f at h
  split at h
  · rename_i hc
    obtain ⟨h0, h1, h2, h3, h4⟩ := hc
    obtain ⟨k, hk⟩ := bits_Div64.spec a0 a1 a2 h0 h1 h2 h3 h4
    rw [h] at hk
    exact PDiv.bits_Div64.calls k a0 a1 a2 r1 r2 w hk
  · cases h

end Go.Proofs.Ytibmidoepeghpaa.G
