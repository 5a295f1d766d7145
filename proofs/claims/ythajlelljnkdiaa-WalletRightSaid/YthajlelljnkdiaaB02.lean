/- obolref02.Bytes and Number: contracts over E. -/
import Derived.Test.YthajlelljnkdiaaEdw
import Derived.Test.YthajlelljnkdiaaCrd
import Derived.Test.YthajlelljnkdiaaProg
import Derived.KernelRfl
set_option linter.unusedVariables false
set_option linter.unusedSimpArgs false
set_option maxRecDepth 10000
open Go Go.Proofs.Ythajlelljnkdiaa.E Go.Proofs
namespace Go.Proofs.Ythajlelljnkdiaa.E.M
abbrev TFB : Prop := tSz Try.prog 57 = some 1 ∧
    tAgg Try.prog 57 = some false ∧
    tBytes Try.prog 57 = some 24 ∧
    tZero Try.prog 57 = some [(.slice none 0 0)] ∧
    tSlice Try.prog 57 = some 5 ∧
    Try.prog.underlying 57 = some (.slice 5) ∧
    tIface Try.prog 57 = some false ∧
    tCls Try.prog 57 = .slice ∧
    tSz Try.prog 5 = some 1 ∧
    tAgg Try.prog 5 = some false ∧
    tBytes Try.prog 5 = some 1 ∧
    tZero Try.prog 5 = some [(.int .u8 0)] ∧
    tSlice Try.prog 5 = none ∧
    tInt Try.prog 5 = some .u8 ∧
    Try.prog.underlying 5 = some (.int .u8) ∧
    tIface Try.prog 5 = some false ∧
    tCls Try.prog 5 = .other ∧
    tSz Try.prog 9 = some 1 ∧
    tAgg Try.prog 9 = some false ∧
    tBytes Try.prog 9 = some 16 ∧
    tZero Try.prog 9 = some [(.string ByteArray.empty)] ∧
    tSlice Try.prog 9 = none ∧
    Try.prog.underlying 9 = some .string ∧
    tIface Try.prog 9 = some false ∧
    tCls Try.prog 9 = .string ∧
    tSz Try.prog 36 = some 1 ∧
    tAgg Try.prog 36 = some false ∧
    tBytes Try.prog 36 = some 24 ∧
    tZero Try.prog 36 = some [(.slice none 0 0)] ∧
    tSlice Try.prog 36 = some 23 ∧
    Try.prog.underlying 36 = some (.slice 23) ∧
    tIface Try.prog 36 = some false ∧
    tCls Try.prog 36 = .slice ∧
    tSz Try.prog 60 = some 2 ∧
    tAgg Try.prog 60 = some true ∧
    tBytes Try.prog 60 = some 16 ∧
    tZero Try.prog 60 = some [(.int .u64 0), (.int .u64 0)] ∧
    tSlice Try.prog 60 = none ∧
    tArray Try.prog 60 = some (2, 23) ∧
    Try.prog.underlying 60 = some (.array 2 23) ∧
    tIface Try.prog 60 = some false ∧
    tCls Try.prog 60 = .other ∧
    (∀ ps, aBuild Try.prog 60 ps = (aFill (fun i => some (i * 1, 1)) [.val (.int .u64 0), .val (.int .u64 0)] ps).map .agg)
theorem tfb : TFB :=
  ⟨rfl, rfl, rfl, rfl, rfl, rfl, rfl, rfl, rfl, rfl, rfl, rfl, rfl, rfl, rfl, rfl, rfl, rfl, rfl, rfl, rfl, rfl, rfl, rfl, rfl, rfl, rfl, rfl, rfl, rfl, rfl, rfl, rfl, rfl, rfl, rfl, rfl, rfl, rfl, rfl, rfl, rfl, fun _ => rfl⟩

def be (x : Int) : List Int := [x / 72057594037927936 % 256, x / 281474976710656 % 256, x / 1099511627776 % 256, x / 4294967296 % 256, x / 16777216 % 256, x / 65536 % 256, x / 256 % 256, x % 256]
theorem be_len (x : Int) : (be x).length = 8 := rfl
theorem be_at (x : Int) (m : Nat) (h : m < 8) : (be x).drop m = x / 256 ^ (7 - m) % 256 :: (be x).drop (m + 1) := by
  have : m = 0 ∨ m = 1 ∨ m = 2 ∨ m = 3 ∨ m = 4 ∨ m = 5 ∨ m = 6 ∨ m = 7 := by omega
  rcases this with rfl | rfl | rfl | rfl | rfl | rfl | rfl | rfl
  · rfl
  · rfl
  · rfl
  · rfl
  · rfl
  · rfl
  · rfl
  · show [x % 256] = [x / 1 % 256]; rw [Int.ediv_one]
set_option maxHeartbeats 2000000 in
theorem obolref02_Bytes_o {x : Int} (hx : w64 x) : Fn Try.prog 60 [u x] [] (Tells (.ref 1000 0 8 1) [(1000, ⟨5, false, by8 (be x)⟩)]) := by
  refine Fn.enter Try.func60 Try.ntmps60 rfl (h := ?_)
  have tf := tfe
  have tfb := tfb
  repeat refine AW.seq ?_
  refine AW.reg ?_
  iterate 1 refine AOL.s1 (h := ?_)
  refine AOL.nil ?_
  refine AW.kq [0] (h := ?_)
  repeat refine AW.seq ?_
  refine AW.reg ?_
  iterate 2 refine AOL.s1 (h := ?_)
  refine AOL.nil ?_
  refine AW.kq [0, 3] (h := ?_)
  repeat refine AW.seq ?_
  refine AW.reg ?_
  iterate 1 refine AOL.s1 (h := ?_)
  refine AOL.nil ?_
  refine AW.kq [0, 3, 4] (h := ?_)
  repeat refine AW.seq ?_
  refine AW.block ?_
  repeat refine AW.seq ?_
  refine AW.loopK [0, 3, 4] (fun n s => ∃ (L : List Int) (y : Int), s = ⟨19, [(0, u y), (3, .ref 1080 0 8 1), (4, i ((n : Int) - 1))], [(1080, ⟨5, false, by8 L⟩)]⟩ ∧ n ≤ 8 ∧ L.length = 8 ∧ L.drop n = (be x).drop n ∧ y = x / 256 ^ (8 - n)) 8 ?_ ?_
  · exact ⟨List.replicate 8 0, x, rfl, Nat.le_refl _, rfl, rfl, (Int.ediv_one x).symm⟩
  rintro n s ⟨L, y, rfl, hn, hL, hd, hy⟩
  have hy0 : w64 y := by
    subst hy
    refine ⟨Int.ediv_nonneg hx.1 (Int.le_of_lt (Int.pow_pos (by decide))), Int.lt_of_le_of_lt (Int.ediv_le_self _ hx.1) hx.2⟩
  repeat refine AW.seq ?_
  cases n with
  | zero =>
    have c0 : decide (((0 : Nat) : Int) - 1 ≥ 0) = false := by decide
    have hL0 : L = be x := hd
    subst hL0
    refine AW.reg ?_
    iterate 2 refine AOL.s1 (h := ?_)
    refine AOL.nil ?_
    refine AW.kq [0, 3, 4, 7] (h := ?_)
    repeat refine AW.seq ?_
    refine AW.cond rfl (fun c_ => ?_) (fun c_ => ?_)
    · cases c_
    clear c0 c_
    repeat refine AW.seq ?_
    refine AW.exit ?_
    repeat (first | refine Kseq.ex ?_ | refine Kloop.ex ?_ | refine Kblock.miss (by decide) ?_)
    refine Kblock.hit ?_
    refine AW.kq [3] (h := ?_)
    repeat refine AW.seq ?_
    refine AW.reg ?_
    iterate 2 refine AOL.s1 (h := ?_)
    refine AOL.nil ?_
    refine AW.kq [2] (h := ?_)
    repeat refine AW.seq ?_
    refine AW.ret ?_
    refine ⟨_, [(1080, _)], rfl, (fun p_ hp_ => by simp only [List.mem_singleton] at hp_; subst hp_; first | exact List.mem_cons_self | exact List.mem_cons_of_mem _ List.mem_cons_self | exact List.mem_cons_of_mem _ (List.mem_cons_of_mem _ List.mem_cons_self)), ?_⟩
    refine Tells.one 1080 (by decide) ?_
    first | rfl | exact frees_fm (fun _ => rfl) _ | exact a64_free _ | exact by8_free _
  | succ m =>
    have e0 : ((m + 1 : Nat) : Int) - 1 = m := by omega
    have c0 : decide ((m : Int) ≥ 0) = true := by simp
    have m0 : (0:Int) ≤ m := by omega
    have m1 : (m:Int) < ((8 : Nat) : Int) := by omega
    have m2 : m + 1 ≤ (by8 L).length := by rw [by8_len]; omega
    replace hy : id (y = x / 256 ^ (8 - (m + 1))) := hy
    replace hd : id (L.drop (m + 1) = (be x).drop (m + 1)) := hd
    replace hL : id (L.length = 8) := hL
    have e1 : IntKind.i64.wrap ((m : Int) - 1) = (m : Int) - 1 := wrapI_o (by omega) (by omega)
    have t1 : y.tmod 256 = y % 256 := Int.tmod_eq_emod_of_nonneg hy0.1
    have t2 : y.tdiv 256 = y / 256 := Int.tdiv_eq_ediv_of_nonneg hy0.1
    have t3 : IntKind.u64.wrap (y / 256) = y / 256 := wrapU_o (by omega) (by have := hy0.2; omega)
    have t4 : IntKind.u8.wrap (y % 256) = y % 256 := by show (y % 256) % 256 = _; omega
    rw [e0]
    refine AW.reg ?_
    iterate 2 refine AOL.s1 (h := ?_)
    refine AOL.nil ?_
    refine AW.kq [0, 3, 4, 7] (h := ?_)
    repeat refine AW.seq ?_
    refine AW.cond rfl (fun c_ => ?_) (fun c_ => ?_)
    · clear c0 c_ e0
      refine AW.skip ?_
      repeat refine AW.seq ?_
      refine AW.block ?_
      repeat refine AW.seq ?_
      refine AW.reg ?_
      iterate 7 refine AOL.s1 (h := ?_)
      refine AOL.nil ?_
      refine AW.kq [0, 3, 4] (h := ?_)
      repeat refine AW.seq ?_
      refine AW.reg ?_
      iterate 3 refine AOL.s1 (h := ?_)
      refine AOL.nil ?_
      refine AW.kq [0, 3, 4] (h := ?_)
      rw [by8_set]
      repeat refine AW.seq ?_
      refine AW.reg ?_
      iterate 3 refine AOL.s1 (h := ?_)
      refine AOL.nil ?_
      have hl : L.length = 8 := hL
      refine ⟨m, by omega, L.set m (y % 256), y / 256, rfl, by omega, by rw [List.length_set]; exact hl, ?_, ?_⟩
      · have hd : L.drop (m + 1) = (be x).drop (m + 1) := hd
        have hy : y = x / 256 ^ (8 - (m + 1)) := hy
        rw [set_drop L m _ (by omega), hd, be_at x m (by omega), hy, show 8 - (m + 1) = 7 - m by omega]
      · have hy : y = x / 256 ^ (8 - (m + 1)) := hy
        rw [hy, Int.ediv_ediv_of_nonneg (Int.le_of_lt (Int.pow_pos (by decide))), show 8 - m = 8 - (m + 1) + 1 by omega, Int.pow_succ]
    · cases c_
theorem obolref02_Bytes_c {x : Int} (hx : w64 x) : Fn Try.prog 60 [u x] [] (fun r _ => r = .sl 8 (by8 (be x))) := by
  have h := (obolref02_Bytes_o hx).frozen (by8_free _)
  have e : frz 1000 (by8 (be x)) (.ref 1000 0 8 1) = .sl 8 (by8 (be x)) := by
    simp only [frz, if_true]
    rw [sub_all (by rw [by8_len, be_len]; omega)]
  rwa [e] at h
theorem be_dig (x : Int) : dig (be x) := by
  intro v hv
  simp only [be, List.mem_cons, List.not_mem_nil, or_false] at hv
  rcases hv with rfl | rfl | rfl | rfl | rfl | rfl | rfl | rfl <;> omega
def b8 (z : Int) : Prop := 0 ≤ z ∧ z < 256
def num (L : List Int) : Int := (L.take 8).foldl (fun a b => a * 256 + b) 0
theorem drop_at {L r : List Int} {k : Nat} {b : Int} (e : L.drop k = b :: r) : k < L.length ∧ L.drop (k + 1) = r ∧ b ∈ L ∧ (by8 L).drop k = .val (.int .u8 b) :: by8 r := by
  have h : k < L.length := by
    rcases Nat.lt_or_ge k L.length with h | h
    · exact h
    · rw [List.drop_eq_nil_of_le h] at e; cases e
  refine ⟨h, by rw [← List.drop_drop, e]; rfl, ?_, by rw [by8_drop, e]; rfl⟩
  have : b ∈ L.drop k := by rw [e]; exact List.mem_cons_self
  exact List.mem_of_mem_drop this
theorem pow256 {k : Nat} (h : k ≤ 8) : (256 : Int) ^ k ≤ 18446744073709551616 := by
  have : (256 : Int) ^ k ≤ 256 ^ 8 := by
    have := Nat.pow_le_pow_right (n := 256) (by decide) h
    exact_mod_cast this
  exact this
set_option maxHeartbeats 2000000 in
theorem obolref02_Number_c {L : List Int} (hb : ∀ b ∈ L, b8 b) (h8 : 8 ≤ L.length) (hl : L.length < 1000000) : Fn Try.prog 44 [sl8 L] [] (fun r _ => r = u (num L)) := by
  refine Fn.enter Try.func44 Try.ntmps44 rfl (h := ?_)
  have tf := tfe
  have tfb := tfb
  repeat refine AW.seq ?_
  refine AW.reg ?_
  iterate 1 refine AOL.s1 (h := ?_)
  refine AOL.nil ?_
  refine AW.kq [0] (h := ?_)
  repeat refine AW.seq ?_
  refine AW.reg ?_
  iterate 1 refine AOL.s1 (h := ?_)
  refine AOL.nil ?_
  refine AW.kq [0, 3] (h := ?_)
  repeat refine AW.seq ?_
  refine AW.reg ?_
  iterate 1 refine AOL.s1 (h := ?_)
  refine AOL.nil ?_
  refine AW.kq [0, 3, 4] (h := ?_)
  repeat refine AW.seq ?_
  refine AW.block ?_
  repeat refine AW.seq ?_
  refine AW.loopK [0, 3, 4] (fun n s => ∃ (k : Nat) (z : Int), s = ⟨18, [(0, sl8 L), (3, u z), (4, i k)], []⟩ ∧ k ≤ 8 ∧ n = 8 - k ∧ (0 ≤ z ∧ z < 256 ^ k) ∧ ((L.drop k).take (8 - k)).foldl (fun a b => a * 256 + b) z = num L) 8 ?_ ?_
  · exact ⟨0, 0, rfl, by decide, rfl, by decide, rfl⟩
  rintro n s ⟨k, z, rfl, hk, rfl, hz, hr⟩
  replace hz : id (0 ≤ z ∧ z < 256 ^ k) := hz
  repeat refine AW.seq ?_
  refine AW.reg ?_
  iterate 2 refine AOL.s1 (h := ?_)
  refine AOL.nil ?_
  refine AW.kq [0, 3, 4, 6] (h := ?_)
  repeat refine AW.seq ?_
  refine AW.cond rfl (fun c_ => ?_) (fun c_ => ?_)
  · have hk8 : k < 8 := by
      have : (k:Int) < 8 := by simpa using c_
      omega
    obtain ⟨b, r, e⟩ : ∃ b r, L.drop k = b :: r := by
      cases h : L.drop k with
      | nil => have := List.drop_eq_nil_iff.1 h; omega
      | cons b r => exact ⟨b, r, rfl⟩
    obtain ⟨q1, q2, q3, hd⟩ := drop_at e
    have bb := hb b q3
    have hz' : 0 ≤ z ∧ z < 256 ^ k := hz
    have p1 := pow256 (k := k + 1) (by omega)
    have p2 : (256:Int) ^ (k + 1) = 256 ^ k * 256 := Int.pow_succ _ _
    have z1 : 256 * z + b < 256 ^ (k + 1) := by have := bb.2; have := hz'.2; omega
    have w1 : IntKind.u64.wrap (256 * z) = 256 * z := wrapU_o (by have := hz'.1; omega) (by have := bb.1; omega)
    have w2 : IntKind.u64.wrap b = b := wrapU_o bb.1 (by have := bb.2; omega)
    have w3 : IntKind.u64.wrap (256 * z + b) = 256 * z + b := wrapU_o (by have := hz'.1; have := bb.1; omega) (by omega)
    have k0 : (0:Int) ≤ k := by omega
    have k1 : (k:Int) < L.length := by omega
    have e1 : IntKind.i64.wrap ((k : Int) + 1) = ((k + 1 : Nat) : Int) := by rw [wrapI_o (by omega) (by omega)]; rfl
    have hr' : (r.take (8 - (k + 1))).foldl (fun a b => a * 256 + b) (256 * z + b) = num L := by
      rw [← hr, e, show 8 - k = 8 - (k + 1) + 1 by omega, List.take_succ_cons, List.foldl_cons, Int.mul_comm]
    have hz2 : 0 ≤ 256 * z + b ∧ 256 * z + b < 256 ^ (k + 1) := ⟨by have := hz'.1; have := bb.1; omega, z1⟩
    rw [← q2] at hr'
    clear e q1 q2 q3 bb hz' p1 p2 z1 hr c_
    replace hz2 := id hz2
    refine AW.skip ?_
    repeat refine AW.seq ?_
    refine AW.block ?_
    repeat refine AW.seq ?_
    refine AW.reg ?_
    iterate 9 refine AOL.s1 (h := ?_)
    refine AOL.nil ?_
    refine AW.kq [0, 3, 4] (h := ?_)
    repeat refine AW.seq ?_
    refine AW.reg ?_
    iterate 3 refine AOL.s1 (h := ?_)
    refine AOL.nil ?_
    exact ⟨8 - (k + 1), by omega, k + 1, 256 * z + b, rfl, by omega, rfl, hz2, hr'⟩
  have hk8 : k = 8 := by
    have : ¬ (k:Int) < 8 := by simpa using c_
    omega
  subst hk8
  have hr : z = num L := by rw [← hr, Nat.sub_self, List.take_zero]; rfl
  rw [← hr]
  clear c_ hr hz hk
  repeat refine AW.seq ?_
  refine AW.exit ?_
  repeat (first | refine Kseq.ex ?_ | refine Kloop.ex ?_ | refine Kblock.miss (by decide) ?_)
  refine Kblock.hit ?_
  refine AW.kq [3] (h := ?_)
  repeat refine AW.seq ?_
  refine AW.reg ?_
  iterate 2 refine AOL.s1 (h := ?_)
  refine AOL.nil ?_
  refine AW.kq [2] (h := ?_)
  repeat refine AW.seq ?_
  refine AW.ret ?_
  refine ⟨_, [], rfl, HOk.nil _, ?_⟩
  rfl
end Go.Proofs.Ythajlelljnkdiaa.E.M

