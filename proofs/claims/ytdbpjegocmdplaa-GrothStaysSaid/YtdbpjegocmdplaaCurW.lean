/- Bytes of numbers and points, written and read: contracts over E. -/
import Derived.Test.YtdbpjegocmdplaaCurE
import Derived.Test.YtdbpjegocmdplaaProg
import Derived.KernelRfl
set_option linter.unusedVariables false
set_option linter.unusedSimpArgs false
set_option maxRecDepth 10000
open Go Go.Proofs.Ytdbpjegocmdplaa.E Go.Proofs
namespace Go.Proofs.Ytdbpjegocmdplaa.E.M
abbrev TFB : Prop := tSz Try.prog 48 = some 1 ∧
    tAgg Try.prog 48 = some false ∧
    tBytes Try.prog 48 = some 24 ∧
    tZero Try.prog 48 = some [(.slice none 0 0)] ∧
    tSlice Try.prog 48 = some 5 ∧
    Try.prog.underlying 48 = some (.slice 5) ∧
    tIface Try.prog 48 = some false ∧
    tCls Try.prog 48 = .slice ∧
    tSz Try.prog 5 = some 1 ∧
    tAgg Try.prog 5 = some false ∧
    tBytes Try.prog 5 = some 1 ∧
    tZero Try.prog 5 = some [(.int .u8 0)] ∧
    tSlice Try.prog 5 = none ∧
    tInt Try.prog 5 = some .u8 ∧
    Try.prog.underlying 5 = some (.int .u8) ∧
    tIface Try.prog 5 = some false ∧
    tCls Try.prog 5 = .other ∧
    tSz Try.prog 9 = some 1 ∧
    tAgg Try.prog 9 = some false ∧
    tBytes Try.prog 9 = some 16 ∧
    tZero Try.prog 9 = some [(.string ByteArray.empty)] ∧
    tSlice Try.prog 9 = none ∧
    Try.prog.underlying 9 = some .string ∧
    tIface Try.prog 9 = some false ∧
    tCls Try.prog 9 = .string ∧
    tSz Try.prog 28 = some 1 ∧
    tAgg Try.prog 28 = some false ∧
    tBytes Try.prog 28 = some 24 ∧
    tZero Try.prog 28 = some [(.slice none 0 0)] ∧
    tSlice Try.prog 28 = some 25 ∧
    Try.prog.underlying 28 = some (.slice 25) ∧
    tIface Try.prog 28 = some false ∧
    tCls Try.prog 28 = .slice ∧
    tSz Try.prog 79 = some 2 ∧
    tAgg Try.prog 79 = some true ∧
    tBytes Try.prog 79 = some 16 ∧
    tZero Try.prog 79 = some [(.int .u64 0), (.int .u64 0)] ∧
    tSlice Try.prog 79 = none ∧
    tArray Try.prog 79 = some (2, 25) ∧
    Try.prog.underlying 79 = some (.array 2 25) ∧
    tIface Try.prog 79 = some false ∧
    tCls Try.prog 79 = .other ∧
    (∀ ps, aBuild Try.prog 79 ps = (aFill (fun i => some (i * 1, 1)) [.val (.int .u64 0), .val (.int .u64 0)] ps).map .agg)
theorem tfb : TFB :=
  ⟨rfl, rfl, rfl, rfl, rfl, rfl, rfl, rfl, rfl, rfl, rfl, rfl, rfl, rfl, rfl, rfl, rfl, rfl, rfl, rfl, rfl, rfl, rfl, rfl, rfl, rfl, rfl, rfl, rfl, rfl, rfl, rfl, rfl, rfl, rfl, rfl, rfl, rfl, rfl, rfl, rfl, rfl, fun _ => rfl⟩

def be (x : Int) : List Int := [x / 72057594037927936 % 256, x / 281474976710656 % 256, x / 1099511627776 % 256, x / 4294967296 % 256, x / 16777216 % 256, x / 65536 % 256, x / 256 % 256, x % 256]
theorem be_len (x : Int) : (be x).length = 8 := rfl
theorem by8_set (L : List Int) (k : Nat) (v : Int) : (by8 L).set k (.val (.int .u8 v)) = by8 (L.set k v) := by unfold by8; rw [List.map_set]
theorem by8_len (L : List Int) : (by8 L).length = L.length := by unfold by8; rw [List.length_map]
theorem by8_app (L M : List Int) : by8 L ++ by8 M = by8 (L ++ M) := by unfold by8; rw [List.map_append]
theorem by8_drop (L : List Int) (k : Nat) : (by8 L).drop k = by8 (L.drop k) := by unfold by8; rw [List.map_drop]
theorem by8_take (L : List Int) (k : Nat) : (by8 L).take k = by8 (L.take k) := by unfold by8; rw [List.map_take]
theorem be_at (x : Int) (m : Nat) (h : m < 8) : (be x).drop m = x / 256 ^ (7 - m) % 256 :: (be x).drop (m + 1) := by
  have : m = 0 ∨ m = 1 ∨ m = 2 ∨ m = 3 ∨ m = 4 ∨ m = 5 ∨ m = 6 ∨ m = 7 := by omega
  rcases this with rfl | rfl | rfl | rfl | rfl | rfl | rfl | rfl
  · rfl
  · rfl
  · rfl
  · rfl
  · rfl
  · rfl
  · rfl
  · show [x % 256] = [x / 1 % 256]; rw [Int.ediv_one]
theorem set_drop (L : List Int) (m : Nat) (v : Int) (h : m < L.length) : (L.set m v).drop m = v :: L.drop (m + 1) := by
  rw [List.drop_eq_getElem_cons (by rw [List.length_set]; exact h), List.getElem_set_self, List.drop_set_of_lt (by omega)]
set_option maxHeartbeats 2000000 in
theorem obolref02_Bytes_c {x : Int} (hx : w64 x) : Fn Try.prog 43 [u x] [] (fun r _ => r = .sl 8 (by8 (be x))) := by
  refine Fn.enter Try.func43 Try.ntmps43 rfl (h := ?_)
  have tf := tf
  have tfb := tfb
  repeat refine AW.seq ?_
  refine AW.reg ?_
  iterate 1 refine AOL.s1 (h := ?_)
  refine AOL.nil ?_
  refine AW.kq [0] (h := ?_)
  repeat refine AW.seq ?_
  refine AW.reg ?_
  iterate 2 refine AOL.s1 (h := ?_)
  refine AOL.nil ?_
  refine AW.kq [0, 3] (h := ?_)
  repeat refine AW.seq ?_
  refine AW.reg ?_
  iterate 1 refine AOL.s1 (h := ?_)
  refine AOL.nil ?_
  refine AW.kq [0, 3, 4] (h := ?_)
  repeat refine AW.seq ?_
  refine AW.block ?_
  repeat refine AW.seq ?_
  refine AW.loopK [0, 3, 4] (fun n s => ∃ (L : List Int) (y : Int), s = ⟨19, [(0, u y), (3, .ref 1080 0 8 1), (4, i ((n : Int) - 1))], [(1080, ⟨5, false, by8 L⟩)]⟩ ∧ n ≤ 8 ∧ L.length = 8 ∧ L.drop n = (be x).drop n ∧ y = x / 256 ^ (8 - n)) 8 ?_ ?_
  · exact ⟨List.replicate 8 0, x, rfl, Nat.le_refl _, rfl, rfl, (Int.ediv_one x).symm⟩
  rintro n s ⟨L, y, rfl, hn, hL, hd, hy⟩
  have hy0 : w64 y := by
    subst hy
    refine ⟨Int.ediv_nonneg hx.1 (Int.le_of_lt (Int.pow_pos (by decide))), Int.lt_of_le_of_lt (Int.ediv_le_self _ hx.1) hx.2⟩
  repeat refine AW.seq ?_
  cases n with
  | zero =>
    have c0 : decide (((0 : Nat) : Int) - 1 ≥ 0) = false := by decide
    have hL0 : L = be x := hd
    subst hL0
    refine AW.reg ?_
    iterate 2 refine AOL.s1 (h := ?_)
    refine AOL.nil ?_
    refine AW.kq [0, 3, 4, 7] (h := ?_)
    repeat refine AW.seq ?_
    refine AW.cond rfl (fun c_ => ?_) (fun c_ => ?_)
    · cases c_
    clear c0 c_
    repeat refine AW.seq ?_
    refine AW.exit ?_
    repeat (first | refine Kseq.ex ?_ | refine Kloop.ex ?_ | refine Kblock.miss (by decide) ?_)
    refine Kblock.hit ?_
    refine AW.kq [3] (h := ?_)
    repeat refine AW.seq ?_
    refine AW.reg ?_
    iterate 2 refine AOL.s1 (h := ?_)
    refine AOL.nil ?_
    refine AW.kq [2] (h := ?_)
    refine AW.fz 1080 rfl (fun h => by cases h) (h := ?_)
    repeat refine AW.seq ?_
    refine AW.ret ?_
    refine ⟨_, [], rfl, HOk.nil _, ?_⟩
    rfl
  | succ m =>
    have e0 : ((m + 1 : Nat) : Int) - 1 = m := by omega
    have c0 : decide ((m : Int) ≥ 0) = true := by simp
    have m0 : (0:Int) ≤ m := by omega
    have m1 : (m:Int) < ((8 : Nat) : Int) := by omega
    have m2 : m + 1 ≤ (by8 L).length := by rw [by8_len]; omega
    replace hy : id (y = x / 256 ^ (8 - (m + 1))) := hy
    replace hd : id (L.drop (m + 1) = (be x).drop (m + 1)) := hd
    replace hL : id (L.length = 8) := hL
    have e1 : IntKind.i64.wrap ((m : Int) - 1) = (m : Int) - 1 := wrapI_o (by omega) (by omega)
    have t1 : y.tmod 256 = y % 256 := Int.tmod_eq_emod_of_nonneg hy0.1
    have t2 : y.tdiv 256 = y / 256 := Int.tdiv_eq_ediv_of_nonneg hy0.1
    have t3 : IntKind.u64.wrap (y / 256) = y / 256 := wrapU_o (by omega) (by have := hy0.2; omega)
    have t4 : IntKind.u8.wrap (y % 256) = y % 256 := by show (y % 256) % 256 = _; omega
    rw [e0]
    refine AW.reg ?_
    iterate 2 refine AOL.s1 (h := ?_)
    refine AOL.nil ?_
    refine AW.kq [0, 3, 4, 7] (h := ?_)
    repeat refine AW.seq ?_
    refine AW.cond rfl (fun c_ => ?_) (fun c_ => ?_)
    · clear c0 c_ e0
      refine AW.skip ?_
      repeat refine AW.seq ?_
      refine AW.block ?_
      repeat refine AW.seq ?_
      refine AW.reg ?_
      iterate 7 refine AOL.s1 (h := ?_)
      refine AOL.nil ?_
      refine AW.kq [0, 3, 4] (h := ?_)
      repeat refine AW.seq ?_
      refine AW.reg ?_
      iterate 3 refine AOL.s1 (h := ?_)
      refine AOL.nil ?_
      refine AW.kq [0, 3, 4] (h := ?_)
      rw [by8_set]
      repeat refine AW.seq ?_
      refine AW.reg ?_
      iterate 3 refine AOL.s1 (h := ?_)
      refine AOL.nil ?_
      have hl : L.length = 8 := hL
      refine ⟨m, by omega, L.set m (y % 256), y / 256, rfl, by omega, by rw [List.length_set]; exact hl, ?_, ?_⟩
      · have hd : L.drop (m + 1) = (be x).drop (m + 1) := hd
        have hy : y = x / 256 ^ (8 - (m + 1)) := hy
        rw [set_drop L m _ (by omega), hd, be_at x m (by omega), hy, show 8 - (m + 1) = 7 - m by omega]
      · have hy : y = x / 256 ^ (8 - (m + 1)) := hy
        rw [hy, Int.ediv_ediv_of_nonneg (Int.le_of_lt (Int.pow_pos (by decide))), show 8 - m = 8 - (m + 1) + 1 by omega, Int.pow_succ]
    · cases c_
def b8 (z : Int) : Prop := 0 ≤ z ∧ z < 256
def num (L : List Int) : Int := (L.take 8).foldl (fun a b => a * 256 + b) 0
abbrev sl8 (L : List Int) : AV := .sl L.length (by8 L)
theorem drop_at {L r : List Int} {k : Nat} {b : Int} (e : L.drop k = b :: r) : k < L.length ∧ L.drop (k + 1) = r ∧ b ∈ L ∧ (by8 L).drop k = .val (.int .u8 b) :: by8 r := by
  have h : k < L.length := by
    rcases Nat.lt_or_ge k L.length with h | h
    · exact h
    · rw [List.drop_eq_nil_of_le h] at e; cases e
  refine ⟨h, by rw [← List.drop_drop, e]; rfl, ?_, by rw [by8_drop, e]; rfl⟩
  have : b ∈ L.drop k := by rw [e]; exact List.mem_cons_self
  exact List.mem_of_mem_drop this
theorem pow256 {k : Nat} (h : k ≤ 8) : (256 : Int) ^ k ≤ 18446744073709551616 := by
  have : (256 : Int) ^ k ≤ 256 ^ 8 := by
    have := Nat.pow_le_pow_right (n := 256) (by decide) h
    exact_mod_cast this
  exact this
set_option maxHeartbeats 2000000 in
theorem obolref02_Number_c {L : List Int} (hb : ∀ b ∈ L, b8 b) (h8 : 8 ≤ L.length) (hl : L.length < 1000000) : Fn Try.prog 45 [sl8 L] [] (fun r _ => r = u (num L)) := by
  refine Fn.enter Try.func45 Try.ntmps45 rfl (h := ?_)
  have tf := tf
  have tfb := tfb
  repeat refine AW.seq ?_
  refine AW.reg ?_
  iterate 1 refine AOL.s1 (h := ?_)
  refine AOL.nil ?_
  refine AW.kq [0] (h := ?_)
  repeat refine AW.seq ?_
  refine AW.reg ?_
  iterate 1 refine AOL.s1 (h := ?_)
  refine AOL.nil ?_
  refine AW.kq [0, 3] (h := ?_)
  repeat refine AW.seq ?_
  refine AW.reg ?_
  iterate 1 refine AOL.s1 (h := ?_)
  refine AOL.nil ?_
  refine AW.kq [0, 3, 4] (h := ?_)
  repeat refine AW.seq ?_
  refine AW.block ?_
  repeat refine AW.seq ?_
  refine AW.loopK [0, 3, 4] (fun n s => ∃ (k : Nat) (z : Int), s = ⟨18, [(0, sl8 L), (3, u z), (4, i k)], []⟩ ∧ k ≤ 8 ∧ n = 8 - k ∧ (0 ≤ z ∧ z < 256 ^ k) ∧ ((L.drop k).take (8 - k)).foldl (fun a b => a * 256 + b) z = num L) 8 ?_ ?_
  · exact ⟨0, 0, rfl, by decide, rfl, by decide, rfl⟩
  rintro n s ⟨k, z, rfl, hk, rfl, hz, hr⟩
  replace hz : id (0 ≤ z ∧ z < 256 ^ k) := hz
  repeat refine AW.seq ?_
  refine AW.reg ?_
  iterate 2 refine AOL.s1 (h := ?_)
  refine AOL.nil ?_
  refine AW.kq [0, 3, 4, 6] (h := ?_)
  repeat refine AW.seq ?_
  refine AW.cond rfl (fun c_ => ?_) (fun c_ => ?_)
  · have hk8 : k < 8 := by
      have : (k:Int) < 8 := by simpa using c_
      omega
    obtain ⟨b, r, e⟩ : ∃ b r, L.drop k = b :: r := by
      cases h : L.drop k with
      | nil => have := List.drop_eq_nil_iff.1 h; omega
      | cons b r => exact ⟨b, r, rfl⟩
    obtain ⟨q1, q2, q3, hd⟩ := drop_at e
    have bb := hb b q3
    have hz' : 0 ≤ z ∧ z < 256 ^ k := hz
    have p1 := pow256 (k := k + 1) (by omega)
    have p2 : (256:Int) ^ (k + 1) = 256 ^ k * 256 := Int.pow_succ _ _
    have z1 : 256 * z + b < 256 ^ (k + 1) := by have := bb.2; have := hz'.2; omega
    have w1 : IntKind.u64.wrap (256 * z) = 256 * z := wrapU_o (by have := hz'.1; omega) (by have := bb.1; omega)
    have w2 : IntKind.u64.wrap b = b := wrapU_o bb.1 (by have := bb.2; omega)
    have w3 : IntKind.u64.wrap (256 * z + b) = 256 * z + b := wrapU_o (by have := hz'.1; have := bb.1; omega) (by omega)
    have k0 : (0:Int) ≤ k := by omega
    have k1 : (k:Int) < L.length := by omega
    have e1 : IntKind.i64.wrap ((k : Int) + 1) = ((k + 1 : Nat) : Int) := by rw [wrapI_o (by omega) (by omega)]; rfl
    have hr' : (r.take (8 - (k + 1))).foldl (fun a b => a * 256 + b) (256 * z + b) = num L := by
      rw [← hr, e, show 8 - k = 8 - (k + 1) + 1 by omega, List.take_succ_cons, List.foldl_cons, Int.mul_comm]
    have hz2 : 0 ≤ 256 * z + b ∧ 256 * z + b < 256 ^ (k + 1) := ⟨by have := hz'.1; have := bb.1; omega, z1⟩
    rw [← q2] at hr'
    clear e q1 q2 q3 bb hz' p1 p2 z1 hr c_
    replace hz2 := id hz2
    refine AW.skip ?_
    repeat refine AW.seq ?_
    refine AW.block ?_
    repeat refine AW.seq ?_
    refine AW.reg ?_
    iterate 9 refine AOL.s1 (h := ?_)
    refine AOL.nil ?_
    refine AW.kq [0, 3, 4] (h := ?_)
    repeat refine AW.seq ?_
    refine AW.reg ?_
    iterate 3 refine AOL.s1 (h := ?_)
    refine AOL.nil ?_
    exact ⟨8 - (k + 1), by omega, k + 1, 256 * z + b, rfl, by omega, rfl, hz2, hr'⟩
  have hk8 : k = 8 := by
    have : ¬ (k:Int) < 8 := by simpa using c_
    omega
  subst hk8
  have hr : z = num L := by rw [← hr, Nat.sub_self, List.take_zero]; rfl
  rw [← hr]
  clear c_ hr hz hk
  repeat refine AW.seq ?_
  refine AW.exit ?_
  repeat (first | refine Kseq.ex ?_ | refine Kloop.ex ?_ | refine Kblock.miss (by decide) ?_)
  refine Kblock.hit ?_
  refine AW.kq [3] (h := ?_)
  repeat refine AW.seq ?_
  refine AW.reg ?_
  iterate 2 refine AOL.s1 (h := ?_)
  refine AOL.nil ?_
  refine AW.kq [2] (h := ?_)
  repeat refine AW.seq ?_
  refine AW.ret ?_
  refine ⟨_, [], rfl, HOk.nil _, ?_⟩
  rfl
def bytesP (b : Bool) (x y : Int) : List Int := if b = true then [0] else 1 :: (be x ++ be y)
set_option maxHeartbeats 2000000 in
theorem obolref03_Bytes_c {b : Bool} {x y : Int} (hx : w64 x) (hy : w64 y) : Fn Try.prog 14 [pt (b, x, y)] [] (fun r _ => r = sl8 (bytesP b x y)) := by
  have l1 : (by8 (be x)).length = 8 := rfl
  have l2 : (by8 (be y)).length = 8 := rfl
  refine Fn.enter Try.func14 Try.ntmps14 rfl (h := ?_)
  have tf := tf
  have tfb := tfb
  repeat refine AW.seq ?_
  refine AW.reg ?_
  iterate 2 refine AOL.s1 (h := ?_)
  refine AOL.nil ?_
  refine AW.kq [1, 2] (h := ?_)
  repeat refine AW.seq ?_
  refine AW.reg ?_
  iterate 2 refine AOL.s1 (h := ?_)
  refine AOL.nil ?_
  refine AW.kq [1, 2, 5] (h := ?_)
  repeat refine AW.seq ?_
  cases b with
  | true =>
    refine AW.cond rfl (fun c_ => ?_) (fun c_ => ?_)
    · repeat refine AW.seq ?_
      refine AW.reg ?_
      iterate 2 refine AOL.s1 (h := ?_)
      refine AOL.nil ?_
      refine AW.kq [2] (h := ?_)
      refine AW.fz 1096 rfl (fun h => by cases h) (h := ?_)
      repeat refine AW.seq ?_
      refine AW.ret ?_
      refine ⟨_, [], rfl, HOk.nil _, ?_⟩
      rfl
    cases c_
  | false =>
    refine AW.cond rfl (fun c_ => ?_) (fun c_ => ?_)
    · cases c_
    refine AW.skip ?_
    repeat refine AW.seq ?_
    refine AW.reg ?_
    iterate 3 refine AOL.s1 (h := ?_)
    refine AOL.callD rfl (obolref02_Bytes_c hx) (by kernel_rfl) rfl rfl (h := ?_)
    iterate 2 refine AOL.s1 (h := ?_)
    refine AOL.nil ?_
    refine AW.kq [1, 2, 3] (h := ?_)
    repeat refine AW.seq ?_
    refine AW.reg ?_
    iterate 3 refine AOL.s1 (h := ?_)
    refine AOL.callD rfl (obolref02_Bytes_c hy) (by kernel_rfl) rfl rfl (h := ?_)
    iterate 2 refine AOL.s1 (h := ?_)
    refine AOL.nil ?_
    refine AW.kq [2] (h := ?_)
    refine AW.fz 1112 rfl (fun h => by cases h) (h := ?_)
    repeat refine AW.seq ?_
    refine AW.ret ?_
    refine ⟨_, [], rfl, HOk.nil _, ?_⟩
    rfl
def writeV (b : Bool) (x y : Int) : AV := if isPt b x y = true then .tup [sl8 (bytesP b x y), nil_] else .tup [.val (.slice none 0 0), er 1]
theorem by8_snoc (L : List Int) (v : Int) : by8 L ++ [.val (.int .u8 v)] = by8 (L ++ [v]) := by8_app L [v]
theorem be_take (x : Int) (j : Nat) (h : j < 8) : (be x).take (j + 1) = (be x).take j ++ [x / 256 ^ (7 - j) % 256] := by
  have e := be_at x j h
  have : (be x)[j]? = some (x / 256 ^ (7 - j) % 256) := by
    have := congrArg (·[0]?) e
    simpa using this
  rw [List.take_add_one, this]; rfl
/-- what stands after k of the two numbers -/
def wr2 (x y : Int) (k : Nat) : List Int := 1 :: ((be x ++ be y).take (8 * k))
set_option maxHeartbeats 4000000 in
theorem curve_Write_c {b : Bool} {x y : Int} (hx : w64 x) (hy : w64 y) : Fn Try.prog 40 [pt (b, x, y)] [] (fun r _ => r = writeV b x y) := by
  have ci := curve_Is_c (b := b) hx hy
  have tc : tIface Try.prog 52 = some false := rfl
  unfold writeV
  generalize isPt b x y = p at *
  refine Fn.enter Try.func40 Try.ntmps40 rfl (h := ?_)
  have tf := tf
  have tfb := tfb
  repeat refine AW.seq ?_
  refine AW.reg ?_
  iterate 3 refine AOL.s1 (h := ?_)
  refine AOL.nil ?_
  refine AW.kq [1, 2, 3] (h := ?_)
  repeat refine AW.seq ?_
  refine AW.block ?_
  repeat refine AW.seq ?_
  refine AW.reg ?_
  iterate 1 refine AOL.s1 (h := ?_)
  refine AOL.callD rfl (ci) (by kernel_rfl) rfl rfl (h := ?_)
  iterate 2 refine AOL.s1 (h := ?_)
  refine AOL.nil ?_
  refine AW.kq [1, 2, 3, 8] (h := ?_)
  clear ci
  repeat refine AW.seq ?_
  cases p with
  | false =>
    refine AW.cond rfl (fun c_ => ?_) (fun c_ => ?_)
    · repeat refine AW.seq ?_
      refine AW.reg ?_
      iterate 3 refine AOL.s1 (h := ?_)
      refine AOL.nil ?_
      refine AW.kq [2, 3] (h := ?_)
      repeat refine AW.seq ?_
      refine AW.ret ?_
      refine ⟨_, [], rfl, HOk.nil _, ?_⟩
      rfl
    cases c_
  | true =>
    refine AW.cond rfl (fun c_ => ?_) (fun c_ => ?_)
    · cases c_
    repeat refine AW.seq ?_
    refine AW.reg ?_
    iterate 3 refine AOL.s1 (h := ?_)
    refine AOL.nil ?_
    refine AW.kq [1, 2, 3, 13] (h := ?_)
    repeat refine AW.seq ?_
    rw [if_pos rfl]
    cases b with
    | true =>
      refine AW.cond rfl (fun d_ => ?_) (fun d_ => ?_)
      · repeat refine AW.seq ?_
        refine AW.reg ?_
        iterate 3 refine AOL.s1 (h := ?_)
        refine AOL.nil ?_
        refine AW.kq [2, 3] (h := ?_)
        refine AW.fz 1256 rfl (fun h => by cases h) (h := ?_)
        repeat refine AW.seq ?_
        refine AW.ret ?_
        refine ⟨_, [], rfl, HOk.nil _, ?_⟩
        rfl
      cases d_
    | false =>
      refine AW.cond rfl (fun d_ => ?_) (fun d_ => ?_)
      · cases d_
      refine AW.skip ?_
      repeat refine AW.seq ?_
      refine AW.reg ?_
      iterate 2 refine AOL.s1 (h := ?_)
      refine AOL.nil ?_
      refine AW.kq [1, 2, 3, 4] (h := ?_)
      repeat refine AW.seq ?_
      refine AW.reg ?_
      iterate 7 refine AOL.s1 (h := ?_)
      refine AOL.nil ?_
      refine AW.kq [2, 3, 4, 22, 23, 24] (h := ?_)
      repeat refine AW.seq ?_
      refine AW.block ?_
      repeat refine AW.seq ?_
      refine AW.let 1016 (h := ?_)
      refine AW.loopK [2, 3, 4, 22, 23, 24] (fun n s => ∃ k : Nat, s = ⟨41, [(2, .val (.slice none 0 0)), (3, nil_), (4, .ref 1272 0 (wr2 x y k).length 1), (22, .ref 1352 0 2 1), (23, i 2), (24, i k)], [(1272, ⟨5, false, by8 (wr2 x y k)⟩), (1352, ⟨25, false, [u x, u y]⟩)]⟩ ∧ k ≤ 2 ∧ n = 2 - k) 2 ?_ ?_
      · exact ⟨0, rfl, by decide, rfl⟩
      rintro n s ⟨k, rfl, hk, rfl⟩
      repeat refine AW.seq ?_
      refine AW.reg ?_
      iterate 1 refine AOL.s1 (h := ?_)
      refine AOL.nil ?_
      refine AW.kq [2, 3, 4, 22, 23, 24, 25] (h := ?_)
      repeat refine AW.seq ?_
      refine AW.cond rfl (fun e_ => ?_) (fun e_ => ?_)
      · have hk2 : k < 2 := by
          have : (k:Int) < 2 := by simpa using e_
          omega
        obtain ⟨v, r, hv, hd, hG⟩ : ∃ (v : Int) (r : List AV), w64 v ∧ List.drop k [u x, u y] = u v :: r ∧ wr2 x y (k + 1) = wr2 x y k ++ be v := by
          have : k = 0 ∨ k = 1 := by omega
          rcases this with rfl | rfl
          · exact ⟨x, [u y], hx, rfl, rfl⟩
          · exact ⟨y, [], hy, rfl, rfl⟩
        have k0 : (0:Int) ≤ k := by omega
        have k1 : (k:Int) < ((2 : Nat) : Int) := by omega
        have hlG : (wr2 x y k).length = 1 + 8 * k := by
          have : k = 0 ∨ k = 1 := by omega
          rcases this with rfl | rfl <;> rfl
        replace hG : id (wr2 x y (k + 1) = wr2 x y k ++ be v) := hG
        replace hlG : id ((wr2 x y k).length = 1 + 8 * k) := hlG
        generalize wr2 x y k = G at *
        clear e_
        refine AW.skip ?_
        repeat refine AW.seq ?_
        refine AW.block ?_
        repeat refine AW.seq ?_
        refine AW.reg ?_
        iterate 3 refine AOL.s1 (h := ?_)
        refine AOL.nil ?_
        refine AW.kq [2, 3, 4, 6, 22, 23, 24] (h := ?_)
        repeat refine AW.seq ?_
        refine AW.reg ?_
        iterate 1 refine AOL.s1 (h := ?_)
        refine AOL.nil ?_
        refine AW.kq [2, 3, 4, 6, 7, 22, 23, 24] (h := ?_)
        clear hd k0 k1
        repeat refine AW.seq ?_
        refine AW.block ?_
        repeat refine AW.seq ?_
        refine AW.loopK [2, 3, 4, 6, 7, 22, 23, 24] (fun n s => ∃ j : Nat, s = ⟨41, [(2, .val (.slice none 0 0)), (3, nil_), (4, .ref 1272 0 (G ++ (be v).take j).length 1), (6, u v), (7, i (56 - 8 * (j : Int))), (22, .ref 1352 0 2 1), (23, i 2), (24, i k)], [(1272, ⟨5, false, by8 (G ++ (be v).take j)⟩), (1352, ⟨25, false, [u x, u y]⟩)]⟩ ∧ j ≤ 8 ∧ n = 8 - j) 8 ?_ ?_
        · exact ⟨0, by rw [List.take_zero, List.append_nil]; rfl, by decide, rfl⟩
        rintro n s ⟨j, rfl, hj, rfl⟩
        repeat refine AW.seq ?_
        refine AW.reg ?_
        iterate 2 refine AOL.s1 (h := ?_)
        refine AOL.nil ?_
        refine AW.kq [2, 3, 4, 6, 7, 22, 23, 24, 29] (h := ?_)
        repeat refine AW.seq ?_
        refine AW.cond rfl (fun g_ => ?_) (fun g_ => ?_)
        · have hj8 : j < 8 := by
            have : (56:Int) - 8 * j ≥ 0 := by simpa using g_
            omega
          have hA := be_take v j hj8
          obtain ⟨sh, hsh⟩ : ∃ sh : Nat, sh = 56 - 8 * j := ⟨_, rfl⟩
          have e0 : (56:Int) - 8 * j = (sh : Int) := by omega
          obtain ⟨f1, f2⟩ := shr_b (y := v) (k := sh) hv (by omega)
          have f3 : IntKind.u8.wrap (v / 2 ^ sh) = v / 256 ^ (7 - j) % 256 := by
            have : (2:Int) ^ sh = 256 ^ (7 - j) := by
              rw [hsh, show (256:Int) = 2 ^ 8 from rfl, ← Int.pow_mul]; congr 1; omega
            rw [this]; rfl
          have s0 : ¬ (sh : Int) < 0 := by omega
          have e1 : IntKind.i64.wrap ((sh : Int) - 8) = 56 - 8 * ((j + 1 : Nat) : Int) := by rw [wrapI_o (by omega) (by omega)]; omega
          have hlA : (G ++ (be v).take j).length < 100 := by
            have : G.length = 1 + 8 * k := hlG
            rw [List.length_append, List.length_take, be_len]; omega
          have hA' : G ++ (be v).take (j + 1) = (G ++ (be v).take j) ++ [v / 256 ^ (7 - j) % 256] := by rw [hA, List.append_assoc]
          rw [e0]
          generalize v / 256 ^ (7 - j) % 256 = c at *
          clear hA
          generalize hB : G ++ (be v).take j = A at *
          replace hB := id hB
          have a1 : (by8 A).length = A.length := by8_len A
          have a2 : A.length + 1 ≤ 140737488355328 := by omega
          have a3 : A.length + 1 ≤ 4611686018427387904 := by omega
          have a4 : A.length ≤ 140737488355327 := by omega
          have a5 : A.length ≤ 4611686018427387903 := by omega
          have hA2 : id (G ++ (be v).take (j + 1) = A ++ [c]) := hA'
          clear hA' g_ hsh e0 f2 hB
          refine AW.skip ?_
          repeat refine AW.seq ?_
          refine AW.block ?_
          repeat refine AW.seq ?_
          refine AW.reg ?_
          iterate 8 refine AOL.s1 (h := ?_)
          refine AOL.nil ?_
          refine AW.kq [2, 3, 4, 6, 7, 22, 23, 24] (h := ?_)
          refine AW.let 1592 (h := ?_)
          repeat refine AW.seq ?_
          refine AW.reg ?_
          iterate 3 refine AOL.s1 (h := ?_)
          refine AOL.nil ?_
          have hA' : G ++ (be v).take (j + 1) = A ++ [c] := hA2
          exact ⟨8 - (j + 1), by omega, j + 1, by rw [hA', List.length_append, ← by8_snoc]; rfl, by omega, rfl⟩
        have hj8 : j = 8 := by
          have : ¬ (56:Int) - 8 * j ≥ 0 := by simpa using g_
          omega
        subst hj8
        have hG' : wr2 x y (k + 1) = G ++ List.take 8 (be v) := hG
        have e1 : IntKind.i64.wrap ((k : Int) + 1) = ((k + 1 : Nat) : Int) := by rw [wrapI_o (by omega) (by omega)]; rfl
        rw [← hG']
        clear g_ hG hG' hlG
        repeat refine AW.seq ?_
        refine AW.exit ?_
        repeat (first | refine Kseq.ex ?_ | refine Kloop.ex ?_ | refine Kblock.miss (by decide) ?_)
        refine Kblock.hit ?_
        refine AW.kq [2, 3, 4, 22, 23, 24] (h := ?_)
        repeat refine AW.seq ?_
        refine AW.reg ?_
        iterate 2 refine AOL.s1 (h := ?_)
        refine AOL.nil ?_
        exact ⟨2 - (k + 1), by omega, k + 1, rfl, by omega, rfl⟩
      have hk2 : k = 2 := by
        have : ¬ (k:Int) < 2 := by simpa using e_
        omega
      subst hk2
      clear e_
      repeat refine AW.seq ?_
      refine AW.exit ?_
      repeat (first | refine Kseq.ex ?_ | refine Kloop.ex ?_ | refine Kblock.miss (by decide) ?_)
      refine Kblock.hit ?_
      refine AW.kq [4] (h := ?_)
      repeat refine AW.seq ?_
      refine AW.reg ?_
      iterate 3 refine AOL.s1 (h := ?_)
      refine AOL.nil ?_
      refine AW.kq [2, 3] (h := ?_)
      refine AW.fz 1272 rfl (fun h => by cases h) (h := ?_)
      repeat refine AW.seq ?_
      refine AW.ret ?_
      refine ⟨_, [], rfl, HOk.nil _, ?_⟩
      rfl
end Go.Proofs.Ytdbpjegocmdplaa.E.M

