/- Polynomials: a domain's powers, its base's values: contracts over E. -/
import Derived.Test.YtdbpjegocmdplaaQapC
import Derived.Test.YtdbpjegocmdplaaProg
import Derived.KernelRfl
set_option linter.unusedVariables false
set_option linter.unusedSimpArgs false
set_option maxRecDepth 10000
open Go Go.Proofs.Ytdbpjegocmdplaa.E Go.Proofs
namespace Go.Proofs.Ytdbpjegocmdplaa.E.M
abbrev blk (L : List Int) : Blk := ⟨25, false, fm u1 L⟩
theorem u1_free (n : Int) : frees (u1 n) = true := rfl
theorem fml (L : List Int) : (fm u1 L).length = L.length := by rw [fm_len u1_len, Nat.mul_one]
theorem fm_rep : ∀ n : Nat, List.replicate n (u 0) = fm u1 (List.replicate n 0)
  | 0 => rfl
  | n + 1 => by rw [List.replicate_succ, List.replicate_succ, fm_rep n]; rfl
theorem fset : ∀ (L : List Int) (k : Nat) (v : Int), (fm u1 L).set k (u v) = fm u1 (L.set k v)
  | [], _, _ => rfl
  | a :: L, 0, v => rfl
  | a :: L, k + 1, v => by
    show u a :: (fm u1 L).set k (u v) = u a :: fm u1 (L.set k v)
    rw [fset L k v]
theorem mk64 {n : Nat} (h : n ≤ 1000000000) : ∀ st d, aMake Try.prog st d 28 (n:Int) (n:Int) = some (.ref (lab d) 0 n 1, st.new (lab d) (blk (List.replicate n 0))) := by
  intro st d
  have tf := tfr
  have e : cMake Try.prog 28 (n:Int) (n:Int) = some (25, 1, List.replicate n (u 0)) := by
    simp only [cMake, tf]
    rw [if_pos (by refine ⟨rfl, by decide, rfl, by omega, by omega, by omega, by omega⟩)]
    rfl
  simp only [aMake, e, Option.map_some, Int.toNat_natCast, fm_rep]
theorem shlu {k : Nat} (h : k ≤ 13) : IntKind.u64.wrap (1 * 2 ^ min ((k:Int).toNat) IntKind.u64.bits) = ((2 ^ k : Nat) : Int) := by
  rw [Int.toNat_natCast, Nat.min_eq_left (by simp [IntKind.bits]; omega)]
  have : k = 0 ∨ k = 1 ∨ k = 2 ∨ k = 3 ∨ k = 4 ∨ k = 5 ∨ k = 6 ∨ k = 7 ∨ k = 8 ∨ k = 9 ∨ k = 10 ∨ k = 11 ∨ k = 12 ∨ k = 13 := by omega
  rcases this with rfl | rfl | rfl | rfl | rfl | rfl | rfl | rfl | rfl | rfl | rfl | rfl | rfl | rfl <;> decide
theorem two_le {k : Nat} (h : k ≤ 12) : 1 ≤ 2 ^ k ∧ 2 ^ k ≤ 4096 := by
  have : k = 0 ∨ k = 1 ∨ k = 2 ∨ k = 3 ∨ k = 4 ∨ k = 5 ∨ k = 6 ∨ k = 7 ∨ k = 8 ∨ k = 9 ∨ k = 10 ∨ k = 11 ∨ k = 12 := by omega
  rcases this with rfl | rfl | rfl | rfl | rfl | rfl | rfl | rfl | rfl | rfl | rfl | rfl | rfl <;> decide
/-- a domain's first power -/
def rootF (k : Nat) : Int := ipow 288230376287764481 3 (288230376287764480 / 2 ^ k)
theorem ipow_w {a e : Int} (ha : 0 ≤ a) (he : w64 e) : w64 (ipow 288230376287764481 a e) := by
  rw [ipow_eq (by decide) ha he]; exact w64_r _
theorem rootF_w (k : Nat) (h : k ≤ 12) : w64 (rootF k) := by
  refine ipow_w (by decide) ?_
  have := two_le h
  exact (shr_b (y := 288230376287764480) (k := k) (by decide) (by omega)).2
theorem shr_root {k : Nat} (h : k ≤ 12) : (288230376287764480 : Int).fdiv (2 ^ min ((k:Int).toNat) IntKind.u64.bits) = 288230376287764480 / 2 ^ k := by
  rw [Int.toNat_natCast]; exact (shr_b (y := 288230376287764480) (by decide) (by omega)).1
theorem w64_root {k : Nat} (h : k ≤ 12) : w64 (288230376287764480 / 2 ^ k) := (shr_b (y := 288230376287764480) (k := k) (by decide) (by omega)).2
set_option maxHeartbeats 1000000 in
theorem poly_Root_c {k : Nat} (h : k ≤ 12) : Fn Try.prog 78 [i k] [] (fun r h_ => r = .tup [u (rootF k), nil_]) := by
  refine Fn.enter Try.func78 Try.ntmps78 rfl (h := ?_)
  have tf := tfr
  have ot_ : (false || true) = true := rfl
  have k0 : ¬ (k:Int) < 0 := by omega
  have k1 : decide ((k:Int) < 0) = false := by simp
  have k2 : decide ((k:Int) > 12) = false := by simp; omega
  have sh := shr_root h
  rw [Int.toNat_natCast] at sh
  have hw := w64_root h
  unfold rootF
  repeat refine AW.seq ?_
  refine AW.reg ?_
  iterate 2 refine AOL.s1 (h := ?_)
  refine AOL.nil ?_
  refine AW.kq [0] (h := ?_)
  repeat refine AW.seq ?_
  refine AW.reg ?_
  iterate 3 refine AOL.s1 (h := ?_)
  refine AOL.kq [0, 6] (h := ?_)
  refine AOL.or 6 9 (os' := ?_) (x := ?_) (h1 := ?_) (h0 := ?_) (h := ?_)
  rotate_left 2
  iterate 2
    · intro hb_ K' hK; (iterate 3 refine AOL.s1 (h := ?_)); refine AOL.kq [0, 9] (h := ?_); exact hK
  refine AOL.nil ?_
  refine AW.kq [0, 9] (h := ?_)
  repeat refine AW.seq ?_
  refine AW.cond rfl (fun c_ => ?_) (fun c_ => ?_)
  · simp at c_ <;> omega
  refine AW.skip ?_
  repeat refine AW.seq ?_
  refine AW.reg ?_
  iterate 2 refine AOL.s1 (h := ?_)
  refine AOL.callD rfl (modular_Pow_c hR (by decide) hw) (by kernel_rfl) rfl rfl (h := ?_)
  iterate 2 refine AOL.s1 (h := ?_)
  refine AOL.nil ?_
  refine AW.kq [2, 3] (h := ?_)
  repeat refine AW.seq ?_
  refine AW.ret ?_
  refine ⟨_, [], rfl, HOk.nil _, ?_⟩
  rfl
/-- a power of the first one -/
def pwq (w : Int) : Nat → Int
  | 0 => 1
  | j + 1 => pwq w j * w % 288230376287764481
theorem pw_w (w : Int) : ∀ j, w64 (pwq w j)
  | 0 => by show w64 1; decide
  | j + 1 => w64_r _
def ptsL (w : Int) (n : Nat) : List Int := (List.range n).map (pwq w)
theorem ptsL_len (w : Int) (n : Nat) : (ptsL w n).length = n := by simp [ptsL]
theorem ptsL_succ (w : Int) (n : Nat) : ptsL w (n + 1) = ptsL w n ++ [pwq w n] := by simp [ptsL, List.range_succ]
theorem ptsL_get (w : Int) {n j : Nat} (h : j < n) : (ptsL w n)[j]? = some (pwq w j) := by simp [ptsL, h]
theorem ptsL_w (w : Int) (n : Nat) : wV (ptsL w n) := by
  intro v hv
  obtain ⟨j, _, rfl⟩ := List.mem_map.1 hv
  exact pw_w w j
end Go.Proofs.Ytdbpjegocmdplaa.E.M

