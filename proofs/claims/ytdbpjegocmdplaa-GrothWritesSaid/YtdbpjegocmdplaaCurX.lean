/- Points read from bytes: contracts over E. -/
import Derived.Test.YtdbpjegocmdplaaCurW
import Derived.Test.YtdbpjegocmdplaaProg
import Derived.KernelRfl
set_option linter.unusedVariables false
set_option linter.unusedSimpArgs false
set_option maxRecDepth 10000
open Go Go.Proofs.Ytdbpjegocmdplaa.E Go.Proofs
namespace Go.Proofs.Ytdbpjegocmdplaa.E.M
def readP (L : List Int) : (Bool × Int × Int) × Bool :=
  if L = [0] then ((true, 0, 0), true) else
  if L.length = 17 ∧ L.head? = some 1 then (if isPt false (num (L.drop 1)) (num (L.drop 9)) = true then ((false, num (L.drop 1), num (L.drop 9)), true) else ((false, 0, 0), false)) else ((false, 0, 0), false)
theorem num_w {L : List Int} (hb : ∀ b ∈ L, b8 b) : w64 (num L) := by
  have h : ∀ (k : Nat) (M : List Int) (z : Int), (∀ b ∈ M, b8 b) → (0 ≤ z ∧ z < 256 ^ k) → M.length + k ≤ 8 → 0 ≤ M.foldl (fun a b => a * 256 + b) z ∧ M.foldl (fun a b => a * 256 + b) z < 18446744073709551616 := by
    intro k M
    induction M generalizing k with
    | nil => intro z _ hz hk; exact ⟨hz.1, Int.lt_of_lt_of_le hz.2 (pow256 (by simp at hk; omega))⟩
    | cons b M ih =>
      intro z hM hz hk
      have bb := hM b List.mem_cons_self
      have p : (256:Int) ^ (k + 1) = 256 ^ k * 256 := Int.pow_succ _ _
      refine ih (k + 1) _ (fun c hc => hM c (List.mem_cons_of_mem _ hc)) ⟨?_, ?_⟩ (by simp at hk; omega)
      · show 0 ≤ z * 256 + b; have := bb.1; have := hz.1; omega
      · show z * 256 + b < _; have := bb.2; have := hz.2; omega
  refine h 0 (L.take 8) 0 (fun b hb' => hb b (List.mem_of_mem_take hb')) (by decide) ?_
  rw [List.length_take]; omega
abbrev rdV (v : (Bool × Int × Int) × Bool) : AV := .tup [pt v.1, bo v.2]
theorem sl_at {L : List Int} {k n : Nat} (h : L.length = n) (hk : k ≤ n) : ∀ H, aSlice Try.prog 48 H (.sl n (by8 L)) (some (i k)) none none = some (.sl (n - k) (by8 (L.drop k))) := by
  intro H
  have hs : tSlice Try.prog 48 = some 5 := rfl
  have hz : tSz Try.prog 5 = some 1 := rfl
  have c1 : (0:Int) ≤ (k : Int) := by omega
  have c2 : (k : Int) ≤ n := by omega
  have e : (by8 L).drop k = by8 (L.drop k) := by8_drop L k
  have l : (by8 (L.drop k)).length = n - k := by rw [by8_len, List.length_drop, h]
  simp only [aSlice, hs, hz, bnd, intOf?, c1, c2, and_self, Int.le_refl, if_true, Int.toNat_natCast, Nat.mul_one, e, List.take_of_length_le (Nat.le_of_eq l)]
set_option maxHeartbeats 4000000 in
theorem obolref03_Read_c {L : List Int} (hb : ∀ b ∈ L, b8 b) (hl : L.length ≤ 9223372036854775807) : Fn Try.prog 16 [sl8 L] [] (fun r _ => r = rdV (readP L)) := by
  cases L with
  | nil =>
    have bn : by8 [] = [] := rfl
    refine Fn.enter Try.func16 Try.ntmps16 rfl (h := ?_)
    have tf := tf
    have tfb := tfb
    repeat refine AW.seq ?_
    refine AW.reg ?_
    iterate 2 refine AOL.s1 (h := ?_)
    refine AOL.nil ?_
    refine AW.kq [0, 2] (h := ?_)
    repeat refine AW.seq ?_
    refine AW.reg ?_
    iterate 9 refine AOL.s1 (h := ?_)
    refine AOL.nil ?_
    refine AW.kq [0, 2, 14] (h := ?_)
    repeat refine AW.seq ?_
    refine AW.cond rfl (fun c_ => ?_) (fun c_ => ?_)
    · cases c_
    refine AW.skip ?_
    repeat refine AW.seq ?_
    refine AW.reg ?_
    iterate 9 refine AOL.s1 (h := ?_)
    refine AOL.nil ?_
    refine AW.kq [0, 2, 24] (h := ?_)
    repeat refine AW.seq ?_
    refine AW.cond rfl (fun d_ => ?_) (fun d_ => ?_)
    · repeat refine AW.seq ?_
      refine AW.reg ?_
      iterate 3 refine AOL.s1 (h := ?_)
      refine AOL.nil ?_
      refine AW.kq [2, 3] (h := ?_)
      repeat refine AW.seq ?_
      refine AW.ret ?_
      refine ⟨_, [], rfl, HOk.nil _, ?_⟩
      rfl
    cases d_
  | cons a r =>
    have bc : by8 (a :: r) = .val (.int .u8 a) :: by8 r := rfl
    have n0 : (0:Int) ≤ 0 := by decide
    have n1 : (0:Int) < ((r.length + 1 : Nat) : Int) := by omega
    refine Fn.enter Try.func16 Try.ntmps16 rfl (h := ?_)
    have tf := tf
    have tfb := tfb
    repeat refine AW.seq ?_
    refine AW.reg ?_
    iterate 2 refine AOL.s1 (h := ?_)
    refine AOL.nil ?_
    refine AW.kq [0, 2] (h := ?_)
    repeat refine AW.seq ?_
    refine AW.reg ?_
    iterate 4 refine AOL.s1 (h := ?_)
    refine AOL.kq [0, 2, 9] (h := ?_)
    refine AOL.and 9 14 (os' := ?_) (x := ?_) (h1 := ?_) (h0 := ?_) (h := ?_)
    rotate_left 2
    iterate 2
      · intro hb_ K' hK; (iterate 5 refine AOL.s1 (h := ?_)); refine AOL.kq [0, 2, 14] (h := ?_); exact hK
    refine AOL.nil ?_
    refine AW.kq [0, 2, 14] (h := ?_)
    repeat refine AW.seq ?_
    refine AW.cond rfl (fun c_ => ?_) (fun c_ => ?_)
    · have e : a :: r = [0] := by
        have : (r.length : Int) + 1 = 1 ∧ a = 0 := by simpa using c_
        have h0 : r = [] := List.eq_nil_of_length_eq_zero (by omega)
        rw [h0, this.2]
      have hr : readP (a :: r) = ((true, 0, 0), true) := by unfold readP; rw [if_pos e]
      rw [hr]
      repeat refine AW.seq ?_
      refine AW.reg ?_
      iterate 3 refine AOL.s1 (h := ?_)
      refine AOL.nil ?_
      refine AW.kq [2, 3] (h := ?_)
      repeat refine AW.seq ?_
      refine AW.ret ?_
      refine ⟨_, [], rfl, HOk.nil _, ?_⟩
      rfl
    have e : ¬ a :: r = [0] := by
      intro h
      injection h with h1 h2
      subst h1 h2
      cases c_
    clear c_
    refine AW.skip ?_
    repeat refine AW.seq ?_
    refine AW.reg ?_
    iterate 4 refine AOL.s1 (h := ?_)
    refine AOL.kq [0, 2, 19] (h := ?_)
    refine AOL.or 19 24 (os' := ?_) (x := ?_) (h1 := ?_) (h0 := ?_) (h := ?_)
    rotate_left 2
    iterate 2
      · intro hb_ K' hK; (iterate 5 refine AOL.s1 (h := ?_)); refine AOL.kq [0, 2, 24] (h := ?_); exact hK
    refine AOL.nil ?_
    refine AW.kq [0, 2, 24] (h := ?_)
    repeat refine AW.seq ?_
    refine AW.cond rfl (fun d_ => ?_) (fun d_ => ?_)
    · have e2 : ¬ ((a :: r).length = 17 ∧ (a :: r).head? = some 1) := by
        rintro ⟨h1, h2⟩
        have h1 : r.length + 1 = 17 := h1
        have h2 : a = 1 := Option.some.inj h2
        rw [h1, h2] at d_
        cases d_
      have hr : readP (a :: r) = ((false, 0, 0), false) := by unfold readP; rw [if_neg e, if_neg e2]
      rw [hr]
      repeat refine AW.seq ?_
      refine AW.reg ?_
      iterate 3 refine AOL.s1 (h := ?_)
      refine AOL.nil ?_
      refine AW.kq [2, 3] (h := ?_)
      repeat refine AW.seq ?_
      refine AW.ret ?_
      refine ⟨_, [], rfl, HOk.nil _, ?_⟩
      rfl
    have e2 : r.length + 1 = 17 ∧ a = 1 := by
      have : (r.length : Int) + 1 = 17 ∧ a = 1 := by simpa using d_
      omega
    rw [← bc, e2.1]
    have hr : readP (a :: r) = (if isPt false (num ((a :: r).drop 1)) (num ((a :: r).drop 9)) = true then ((false, num ((a :: r).drop 1), num ((a :: r).drop 9)), true) else ((false, 0, 0), false)) := by
      unfold readP; rw [if_neg e, if_pos ⟨e2.1, by rw [e2.2]; rfl⟩]
    rw [hr]
    have hL : (a :: r).length = 17 := e2.1
    clear bc n1 hr e e2 d_ n0
    generalize a :: r = L at *
    have g1 : (L.drop 1).length = 16 := by rw [List.length_drop, hL]
    have g9 : (L.drop 9).length = 8 := by rw [List.length_drop, hL]
    have s1 : ∀ H, aSlice Try.prog 48 H (.sl 17 (by8 L)) (some (i 1)) none none = some (sl8 (L.drop 1)) := fun H => by
      show _ = some (AV.sl (L.drop 1).length _); rw [g1]; exact sl_at hL (by decide : 1 ≤ 17) H
    have s9 : ∀ H, aSlice Try.prog 48 H (.sl 17 (by8 L)) (some (i 9)) none none = some (sl8 (L.drop 9)) := fun H => by
      show _ = some (AV.sl (L.drop 9).length _); rw [g9]; exact sl_at hL (by decide : 9 ≤ 17) H
    have b1 : ∀ b ∈ L.drop 1, b8 b := fun b h => hb b (List.mem_of_mem_drop h)
    have b9 : ∀ b ∈ L.drop 9, b8 b := fun b h => hb b (List.mem_of_mem_drop h)
    have c1 := obolref02_Number_c b1 (by omega) (by omega)
    have c9 := obolref02_Number_c b9 (by omega) (by omega)
    have w1 := num_w b1
    have w9 := num_w b9
    replace g1 := id g1
    replace g9 := id g9
    generalize L.drop 1 = D1 at *
    generalize L.drop 9 = D9 at *
    generalize num D1 = x at *
    generalize num D9 = y at *
    clear g1 g9 hb
    have ci := obolref03_Is_c (b := false) w1 w9
    generalize isPt false x y = p at *
    refine AW.skip ?_
    repeat refine AW.seq ?_
    refine AW.drw 8 [1064] (by kernel_rfl) (h := ?_)
    iterate 2 refine ADL.dm 1 (h := ?_)
    refine ADL.call rfl (c1) (by kernel_rfl) rfl rfl (h := ?_)
    iterate 2 refine ADL.dm 1 (h := ?_)
    refine ADL.call rfl (c9) (by kernel_rfl) rfl rfl (h := ?_)
    iterate 2 refine ADL.dm 1 (h := ?_)
    refine ADL.done hmix rfl rfl (hT := ?_)
    iterate 1 refine AOL.s1 (h := ?_)
    refine AOL.nil ?_
    refine AW.kq [2, 4] (h := ?_)
    repeat refine AW.seq ?_
    refine AW.reg ?_
    iterate 1 refine AOL.s1 (h := ?_)
    refine AOL.callD rfl (ci) (by kernel_rfl) rfl rfl (h := ?_)
    iterate 1 refine AOL.s1 (h := ?_)
    refine AOL.nil ?_
    refine AW.kq [2, 4, 5] (h := ?_)
    repeat refine AW.seq ?_
    refine AW.reg ?_
    iterate 2 refine AOL.s1 (h := ?_)
    refine AOL.nil ?_
    refine AW.kq [2, 4, 36] (h := ?_)
    repeat refine AW.seq ?_
    cases p with
    | false =>
      refine AW.cond rfl (fun c_ => ?_) (fun c_ => ?_)
      · repeat refine AW.seq ?_
        refine AW.reg ?_
        iterate 3 refine AOL.s1 (h := ?_)
        refine AOL.nil ?_
        refine AW.kq [2, 3] (h := ?_)
        repeat refine AW.seq ?_
        refine AW.ret ?_
        refine ⟨_, [], rfl, HOk.nil _, ?_⟩
        rfl
      cases c_
    | true =>
      refine AW.cond rfl (fun c_ => ?_) (fun c_ => ?_)
      · cases c_
      refine AW.skip ?_
      repeat refine AW.seq ?_
      refine AW.reg ?_
      iterate 3 refine AOL.s1 (h := ?_)
      refine AOL.nil ?_
      refine AW.kq [2, 3] (h := ?_)
      repeat refine AW.seq ?_
      refine AW.ret ?_
      refine ⟨_, [], rfl, HOk.nil _, ?_⟩
      rfl
def fl (M : List Int) : Int := M.foldl (fun a b => a * 256 + b) 0
theorem fl_snoc (M : List Int) (b : Int) : fl (M ++ (some b).toList) = fl M * 256 + b := by
  show (M ++ [b]).foldl _ 0 = _
  rw [List.foldl_append]; rfl
theorem fl_w (M : List Int) : ∀ (k : Nat) (z : Int), (∀ b ∈ M, b8 b) → 0 ≤ z ∧ z < 256 ^ k → 0 ≤ M.foldl (fun a b => a * 256 + b) z ∧ M.foldl (fun a b => a * 256 + b) z < 256 ^ (k + M.length) := by
  induction M with
  | nil => intro k z _ hz; exact hz
  | cons b M ih =>
    intro k z hM hz
    have bb := hM b List.mem_cons_self
    have p : (256:Int) ^ (k + 1) = 256 ^ k * 256 := Int.pow_succ _ _
    have := ih (k + 1) (z * 256 + b) (fun c hc => hM c (List.mem_cons_of_mem _ hc)) ⟨by have := bb.1; have := hz.1; omega, by have := bb.2; have := hz.2; omega⟩
    rw [show k + 1 + M.length = k + (M.length + 1) by omega] at this
    exact this
theorem fl_bound {M : List Int} {m : Nat} (h : ∀ b ∈ M, b8 b) (hm : M.length ≤ m) (hm7 : m = 7) : 0 ≤ fl M ∧ fl M < 72057594037927936 := by
  have := fl_w M 0 0 h (by decide)
  refine ⟨this.1, Int.lt_of_lt_of_le this.2 ?_⟩
  rw [Nat.zero_add]
  have : (256 : Int) ^ M.length ≤ 256 ^ 7 := by
    have := Nat.pow_le_pow_right (n := 256) (by decide) (show M.length ≤ 7 by omega)
    exact_mod_cast this
  exact this
def readC (L : List Int) : AV :=
  if L = [0] then .tup [pt (true, 0, 0), nil_] else
  if L.length = 17 ∧ L.head? = some 1 then (if isPt false (num (L.drop 1)) (num (L.drop 9)) = true then .tup [pt (false, num (L.drop 1), num (L.drop 9)), nil_] else .tup [pt (false, 0, 0), er 3]) else .tup [pt (false, 0, 0), er 3]
set_option maxHeartbeats 4000000 in
theorem curve_Read_c {L : List Int} (hb : ∀ b ∈ L, b8 b) (hl : L.length ≤ 9223372036854775807) : Fn Try.prog 44 [sl8 L] [] (fun r _ => r = readC L) := by
  have tc : tIface Try.prog 52 = some false := rfl
  cases L with
  | nil =>
    have bn : by8 [] = [] := rfl
    refine Fn.enter Try.func44 Try.ntmps44 rfl (h := ?_)
    have tf := tf
    have tfb := tfb
    repeat refine AW.seq ?_
    refine AW.reg ?_
    iterate 2 refine AOL.s1 (h := ?_)
    refine AOL.nil ?_
    refine AW.kq [0, 2] (h := ?_)
    repeat refine AW.seq ?_
    refine AW.reg ?_
    iterate 9 refine AOL.s1 (h := ?_)
    refine AOL.nil ?_
    refine AW.kq [0, 2, 16] (h := ?_)
    repeat refine AW.seq ?_
    refine AW.cond rfl (fun c_ => ?_) (fun c_ => ?_)
    · cases c_
    refine AW.skip ?_
    repeat refine AW.seq ?_
    refine AW.reg ?_
    iterate 9 refine AOL.s1 (h := ?_)
    refine AOL.nil ?_
    refine AW.kq [0, 2, 26] (h := ?_)
    repeat refine AW.seq ?_
    refine AW.cond rfl (fun d_ => ?_) (fun d_ => ?_)
    · repeat refine AW.seq ?_
      refine AW.reg ?_
      iterate 4 refine AOL.s1 (h := ?_)
      refine AOL.nil ?_
      refine AW.kq [2, 3] (h := ?_)
      repeat refine AW.seq ?_
      refine AW.ret ?_
      refine ⟨_, [], rfl, HOk.nil _, ?_⟩
      rfl
    cases d_
  | cons a r =>
    have bc : by8 (a :: r) = .val (.int .u8 a) :: by8 r := rfl
    have n0 : (0:Int) ≤ 0 := by decide
    have n1 : (0:Int) < ((r.length + 1 : Nat) : Int) := by omega
    refine Fn.enter Try.func44 Try.ntmps44 rfl (h := ?_)
    have tf := tf
    have tfb := tfb
    repeat refine AW.seq ?_
    refine AW.reg ?_
    iterate 2 refine AOL.s1 (h := ?_)
    refine AOL.nil ?_
    refine AW.kq [0, 2] (h := ?_)
    repeat refine AW.seq ?_
    refine AW.reg ?_
    iterate 4 refine AOL.s1 (h := ?_)
    refine AOL.kq [0, 2, 11] (h := ?_)
    refine AOL.and 11 16 (os' := ?_) (x := ?_) (h1 := ?_) (h0 := ?_) (h := ?_)
    rotate_left 2
    iterate 2
      · intro hb_ K' hK; (iterate 5 refine AOL.s1 (h := ?_)); refine AOL.kq [0, 2, 16] (h := ?_); exact hK
    refine AOL.nil ?_
    refine AW.kq [0, 2, 16] (h := ?_)
    repeat refine AW.seq ?_
    refine AW.cond rfl (fun c_ => ?_) (fun c_ => ?_)
    · have e : a :: r = [0] := by
        have : (r.length : Int) + 1 = 1 ∧ a = 0 := by simpa using c_
        have h0 : r = [] := List.eq_nil_of_length_eq_zero (by omega)
        rw [h0, this.2]
      have hr : readC (a :: r) = .tup [pt (true, 0, 0), nil_] := by unfold readC; rw [if_pos e]
      rw [hr]
      repeat refine AW.seq ?_
      refine AW.reg ?_
      refine AOL.callD rfl (curve_inf_c) (by kernel_rfl) rfl rfl (h := ?_)
      iterate 2 refine AOL.s1 (h := ?_)
      refine AOL.nil ?_
      refine AW.kq [2, 3] (h := ?_)
      repeat refine AW.seq ?_
      refine AW.ret ?_
      refine ⟨_, [], rfl, HOk.nil _, ?_⟩
      rfl
    have e : ¬ a :: r = [0] := by
      intro h
      injection h with h1 h2
      subst h1 h2
      cases c_
    clear c_
    refine AW.skip ?_
    repeat refine AW.seq ?_
    refine AW.reg ?_
    iterate 4 refine AOL.s1 (h := ?_)
    refine AOL.kq [0, 2, 21] (h := ?_)
    refine AOL.or 21 26 (os' := ?_) (x := ?_) (h1 := ?_) (h0 := ?_) (h := ?_)
    rotate_left 2
    iterate 2
      · intro hb_ K' hK; (iterate 5 refine AOL.s1 (h := ?_)); refine AOL.kq [0, 2, 26] (h := ?_); exact hK
    refine AOL.nil ?_
    refine AW.kq [0, 2, 26] (h := ?_)
    repeat refine AW.seq ?_
    refine AW.cond rfl (fun d_ => ?_) (fun d_ => ?_)
    · have e2 : ¬ ((a :: r).length = 17 ∧ (a :: r).head? = some 1) := by
        rintro ⟨h1, h2⟩
        have h1 : r.length + 1 = 17 := h1
        have h2 : a = 1 := Option.some.inj h2
        rw [h1, h2] at d_
        cases d_
      have hr : readC (a :: r) = .tup [pt (false, 0, 0), er 3] := by unfold readC; rw [if_neg e, if_neg e2]
      rw [hr]
      repeat refine AW.seq ?_
      refine AW.reg ?_
      iterate 4 refine AOL.s1 (h := ?_)
      refine AOL.nil ?_
      refine AW.kq [2, 3] (h := ?_)
      repeat refine AW.seq ?_
      refine AW.ret ?_
      refine ⟨_, [], rfl, HOk.nil _, ?_⟩
      rfl
    have e2 : r.length + 1 = 17 ∧ a = 1 := by
      have : (r.length : Int) + 1 = 17 ∧ a = 1 := by simpa using d_
      omega
    rw [← bc, e2.1]
    have hr : readC (a :: r) = (if isPt false (num ((a :: r).drop 1)) (num ((a :: r).drop 9)) = true then .tup [pt (false, num ((a :: r).drop 1), num ((a :: r).drop 9)), nil_] else .tup [pt (false, 0, 0), er 3]) := by
      unfold readC; rw [if_neg e, if_pos ⟨e2.1, by rw [e2.2]; rfl⟩]
    rw [hr]
    have hL : (a :: r).length = 17 := e2.1
    clear bc n1 hr e e2 d_ n0
    generalize a :: r = L at *
    have g1 : (L.drop 1).length = 16 := by rw [List.length_drop, hL]
    have s1 : ∀ H, aSlice Try.prog 48 H (.sl 17 (by8 L)) (some (i 1)) none none = some (.sl 16 (by8 (L.drop 1))) := fun H => sl_at hL (by decide : 1 ≤ 17) H
    have b1 : ∀ b ∈ L.drop 1, b8 b := fun b h => hb b (List.mem_of_mem_drop h)
    have b9 : ∀ b ∈ L.drop 9, b8 b := fun b h => hb b (List.mem_of_mem_drop h)
    have w1 := num_w b1
    have w9 := num_w b9
    have h19 : L.drop 9 = (L.drop 1).drop 8 := by rw [List.drop_drop]
    rw [h19] at w9 ⊢
    have hbD := b1
    replace g1 := id g1
    clear hL hb b1 b9 h19
    generalize L.drop 1 = D at *
    have i00 : (0:Int) ≤ 0 := by decide
    have i02 : (0:Int) < ((2 : Nat) : Int) := by decide
    have i10 : (0:Int) ≤ 1 := by decide
    have i12 : (1:Int) < ((2 : Nat) : Int) := by decide
    have t1 : Int.toNat 1 = 1 := rfl
    refine AW.skip ?_
    repeat refine AW.seq ?_
    refine AW.reg ?_
    iterate 1 refine AOL.s1 (h := ?_)
    refine AOL.nil ?_
    refine AW.kq [0, 2, 4] (h := ?_)
    repeat refine AW.seq ?_
    refine AW.reg ?_
    iterate 4 refine AOL.s1 (h := ?_)
    refine AOL.nil ?_
    refine AW.kq [2, 4, 30, 31, 32] (h := ?_)
    clear s1
    repeat refine AW.seq ?_
    refine AW.block ?_
    repeat refine AW.seq ?_
    refine AW.loopK [2, 4, 30, 31, 32] (fun n s => ∃ (k : Nat) (A B : Int), s = ⟨60, [(2, .ptr 1032 0), (4, .ptr 1064 0), (30, .sl 16 (by8 D)), (31, i 16), (32, i k)], [(1032, ⟨32, true, [bo false, u 0, u 0]⟩), (1064, ⟨79, true, [u A, u B]⟩)]⟩ ∧ k ≤ 16 ∧ n = 16 - k ∧ id (A = fl (D.take (min k 8))) ∧ id (B = fl ((D.drop 8).take (k - 8)))) 16 ?_ ?_
    · exact ⟨0, 0, 0, rfl, by decide, rfl, rfl, rfl⟩
    rintro n s ⟨k, A, B, rfl, hk, rfl, hA, hB⟩
    repeat refine AW.seq ?_
    refine AW.reg ?_
    iterate 1 refine AOL.s1 (h := ?_)
    refine AOL.nil ?_
    refine AW.kq [2, 4, 30, 31, 32, 33] (h := ?_)
    repeat refine AW.seq ?_
    refine AW.cond rfl (fun c_ => ?_) (fun c_ => ?_)
    · have hk16 : k < 16 := by
        have : (k:Int) < 16 := by simpa using c_
        omega
      have gl : D.length = 16 := g1
      obtain ⟨b, r, e⟩ : ∃ b r, D.drop k = b :: r := by
        cases h : D.drop k with
        | nil => have := List.drop_eq_nil_iff.1 h; omega
        | cons b r => exact ⟨b, r, rfl⟩
      have hat : D[k]? = some b := by
        have := congrArg (·[0]?) e
        simpa using this
      obtain ⟨q1, q2, q3, hd⟩ := drop_at e
      have bb : 0 ≤ b ∧ b < 256 := hbD b q3
      have k0 : (0:Int) ≤ k := by omega
      have k1 : (k:Int) < ((16 : Nat) : Int) := by omega
      have w2 : IntKind.u64.wrap b = b := wrapU_o bb.1 (by have := bb.2; omega)
      have e1 : IntKind.i64.wrap ((k : Int) + 1) = ((k + 1 : Nat) : Int) := by rw [wrapI_o (by omega) (by omega)]; rfl
      clear e q1 q2 q3
      by_cases h8 : k < 8
      · skip
        have q1 : IntKind.i64.wrap ((k : Int).tdiv 8) = 0 := by rw [Int.tdiv_eq_ediv_of_nonneg k0, wrapI_o (by omega) (by omega)]; omega
        have bd : 0 ≤ A ∧ A < 72057594037927936 := by
          have hX : A = fl (D.take (min k 8)) := hA
          have := fl_bound (M := D.take (min k 8)) (m := 7) (fun c hc => hbD c (List.mem_of_mem_take hc)) (by rw [List.length_take]; omega) (by decide)
          rw [← hX] at this
          exact this
        have s8 : IntKind.u64.wrap (A * 2 ^ min (Int.toNat 8) IntKind.u64.bits) = A * 256 := by
          show IntKind.u64.wrap (A * 256) = _
          exact wrapU_o (by have := bd.1; omega) (by have := bd.2; omega)
        have o8 := or_join (T := 256) (a := A) (b := b) 8 (by decide) rfl bd.1 (by have := bd.2; have := bb.2; omega) bb.1 bb.2
        have hA2 : id (A * 256 + b = fl (D.take (min (k + 1) 8))) := by
          have hA : A = fl (D.take (min k 8)) := hA
          rw [show min (k + 1) 8 = k + 1 by omega, List.take_add_one, hat, fl_snoc, hA, show min k 8 = k by omega]; rfl
        have hB2 : id (B = fl ((D.drop 8).take (k + 1 - 8))) := by
          have hB : B = fl ((D.drop 8).take (k - 8)) := hB
          rw [show k + 1 - 8 = 0 by omega, hB, show k - 8 = 0 by omega]; rfl
        clear hA hB bd hat c_
        refine AW.skip ?_
        repeat refine AW.seq ?_
        refine AW.block ?_
        repeat refine AW.seq ?_
        refine AW.reg ?_
        iterate 5 refine AOL.s1 (h := ?_)
        refine AOL.nil ?_
        refine AW.kq [2, 4, 5, 6, 30, 31, 32] (h := ?_)
        repeat refine AW.seq ?_
        refine AW.reg ?_
        iterate 12 refine AOL.s1 (h := ?_)
        refine AOL.nil ?_
        refine AW.kq [2, 4, 30, 31, 32] (h := ?_)
        repeat refine AW.seq ?_
        refine AW.reg ?_
        iterate 2 refine AOL.s1 (h := ?_)
        refine AOL.nil ?_
        exact ⟨16 - (k + 1), by omega, k + 1, _, _, rfl, by omega, rfl, hA2, hB2⟩
      · skip
        have q1 : IntKind.i64.wrap ((k : Int).tdiv 8) = 1 := by rw [Int.tdiv_eq_ediv_of_nonneg k0, wrapI_o (by omega) (by omega)]; omega
        have bd : 0 ≤ B ∧ B < 72057594037927936 := by
          have hX : B = fl ((D.drop 8).take (k - 8)) := hB
          have := fl_bound (M := (D.drop 8).take (k - 8)) (m := 7) (fun c hc => hbD c (List.mem_of_mem_drop (List.mem_of_mem_take hc))) (by rw [List.length_take, List.length_drop]; omega) (by decide)
          rw [← hX] at this
          exact this
        have s8 : IntKind.u64.wrap (B * 2 ^ min (Int.toNat 8) IntKind.u64.bits) = B * 256 := by
          show IntKind.u64.wrap (B * 256) = _
          exact wrapU_o (by have := bd.1; omega) (by have := bd.2; omega)
        have o8 := or_join (T := 256) (a := B) (b := b) 8 (by decide) rfl bd.1 (by have := bd.2; have := bb.2; omega) bb.1 bb.2
        have hA2 : id (A = fl (D.take (min (k + 1) 8))) := by
          have hA : A = fl (D.take (min k 8)) := hA
          rw [show min (k + 1) 8 = 8 by omega, hA, show min k 8 = 8 by omega]; rfl
        have hB2 : id (B * 256 + b = fl ((D.drop 8).take (k + 1 - 8))) := by
          have hB : B = fl ((D.drop 8).take (k - 8)) := hB
          rw [show k + 1 - 8 = k - 8 + 1 by omega, List.take_add_one, List.getElem?_drop, show 8 + (k - 8) = k by omega, hat, fl_snoc, hB]; rfl
        clear hA hB bd hat c_
        refine AW.skip ?_
        repeat refine AW.seq ?_
        refine AW.block ?_
        repeat refine AW.seq ?_
        refine AW.reg ?_
        iterate 5 refine AOL.s1 (h := ?_)
        refine AOL.nil ?_
        refine AW.kq [2, 4, 5, 6, 30, 31, 32] (h := ?_)
        repeat refine AW.seq ?_
        refine AW.reg ?_
        iterate 12 refine AOL.s1 (h := ?_)
        refine AOL.nil ?_
        refine AW.kq [2, 4, 30, 31, 32] (h := ?_)
        repeat refine AW.seq ?_
        refine AW.reg ?_
        iterate 2 refine AOL.s1 (h := ?_)
        refine AOL.nil ?_
        exact ⟨16 - (k + 1), by omega, k + 1, _, _, rfl, by omega, rfl, hA2, hB2⟩
    have hk16 : k = 16 := by
      have : ¬ (k:Int) < 16 := by simpa using c_
      omega
    subst hk16
    have gl : D.length = 16 := g1
    have hA : A = num D := hA
    have hB : B = num (D.drop 8) := hB
    rw [← hA] at w1 ⊢
    rw [← hB] at w9 ⊢
    clear hA hB c_ g1 gl hbD hk
    have ci := curve_Is_c (b := false) w1 w9
    generalize isPt false A B = p at *
    repeat refine AW.seq ?_
    refine AW.exit ?_
    repeat (first | refine Kseq.ex ?_ | refine Kloop.ex ?_ | refine Kblock.miss (by decide) ?_)
    refine Kblock.hit ?_
    refine AW.kq [2, 4] (h := ?_)
    repeat refine AW.seq ?_
    refine AW.reg ?_
    iterate 7 refine AOL.s1 (h := ?_)
    refine AOL.nil ?_
    refine AW.kq [2, 7] (h := ?_)
    repeat refine AW.seq ?_
    refine AW.reg ?_
    iterate 1 refine AOL.s1 (h := ?_)
    refine AOL.callD rfl (ci) (by kernel_rfl) rfl rfl (h := ?_)
    iterate 1 refine AOL.s1 (h := ?_)
    refine AOL.nil ?_
    refine AW.kq [2, 7, 56] (h := ?_)
    repeat refine AW.seq ?_
    cases p with
    | false =>
      refine AW.cond rfl (fun c_ => ?_) (fun c_ => ?_)
      · repeat refine AW.seq ?_
        refine AW.reg ?_
        iterate 4 refine AOL.s1 (h := ?_)
        refine AOL.nil ?_
        refine AW.kq [2, 3] (h := ?_)
        repeat refine AW.seq ?_
        refine AW.ret ?_
        refine ⟨_, [], rfl, HOk.nil _, ?_⟩
        rfl
      cases c_
    | true =>
      refine AW.cond rfl (fun c_ => ?_) (fun c_ => ?_)
      · cases c_
      refine AW.skip ?_
      repeat refine AW.seq ?_
      refine AW.reg ?_
      iterate 3 refine AOL.s1 (h := ?_)
      refine AOL.nil ?_
      refine AW.kq [2, 3] (h := ?_)
      repeat refine AW.seq ?_
      refine AW.ret ?_
      refine ⟨_, [], rfl, HOk.nil _, ?_⟩
      rfl
end Go.Proofs.Ytdbpjegocmdplaa.E.M

