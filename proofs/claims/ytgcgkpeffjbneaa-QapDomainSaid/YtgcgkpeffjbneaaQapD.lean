/- Polynomials: a domain's powers, its base's values: contracts over E. -/
import Derived.Test.YtgcgkpeffjbneaaQapC
import Derived.Test.YtgcgkpeffjbneaaProg
import Derived.KernelRfl
set_option linter.unusedVariables false
set_option linter.unusedSimpArgs false
set_option maxRecDepth 10000
open Go Go.Proofs.Ytgcgkpeffjbneaa.E Go.Proofs
namespace Go.Proofs.Ytgcgkpeffjbneaa.E.M
abbrev blk (L : List Int) : Blk := ⟨36, false, fm u1 L⟩
theorem u1_free (n : Int) : frees (u1 n) = true := rfl
theorem fml (L : List Int) : (fm u1 L).length = L.length := by rw [fm_len u1_len, Nat.mul_one]
theorem fm_rep : ∀ n : Nat, List.replicate n (u 0) = fm u1 (List.replicate n 0)
  | 0 => rfl
  | n + 1 => by rw [List.replicate_succ, List.replicate_succ, fm_rep n]; rfl
theorem fset : ∀ (L : List Int) (k : Nat) (v : Int), (fm u1 L).set k (u v) = fm u1 (L.set k v)
  | [], _, _ => rfl
  | a :: L, 0, v => rfl
  | a :: L, k + 1, v => by
    show u a :: (fm u1 L).set k (u v) = u a :: fm u1 (L.set k v)
    rw [fset L k v]
theorem mk64 {n : Nat} (h : n ≤ 1000000000) : ∀ st d, aMake Try.prog st d 34 (n:Int) (n:Int) = some (.ref (lab d) 0 n 1, st.new (lab d) (blk (List.replicate n 0))) := by
  intro st d
  have tf := tf
  have e : cMake Try.prog 34 (n:Int) (n:Int) = some (36, 1, List.replicate n (u 0)) := by
    simp only [cMake, tf]
    rw [if_pos (by refine ⟨rfl, by decide, rfl, by omega, by omega, by omega, by omega⟩)]
    rfl
  simp only [aMake, e, Option.map_some, Int.toNat_natCast, fm_rep]
theorem shlu {k : Nat} (h : k ≤ 13) : IntKind.u64.wrap (1 * 2 ^ min ((k:Int).toNat) IntKind.u64.bits) = ((2 ^ k : Nat) : Int) := by
  rw [Int.toNat_natCast, Nat.min_eq_left (by simp [IntKind.bits]; omega)]
  have : k = 0 ∨ k = 1 ∨ k = 2 ∨ k = 3 ∨ k = 4 ∨ k = 5 ∨ k = 6 ∨ k = 7 ∨ k = 8 ∨ k = 9 ∨ k = 10 ∨ k = 11 ∨ k = 12 ∨ k = 13 := by omega
  rcases this with rfl | rfl | rfl | rfl | rfl | rfl | rfl | rfl | rfl | rfl | rfl | rfl | rfl | rfl <;> decide
theorem two_le {k : Nat} (h : k ≤ 12) : 1 ≤ 2 ^ k ∧ 2 ^ k ≤ 4096 := by
  have : k = 0 ∨ k = 1 ∨ k = 2 ∨ k = 3 ∨ k = 4 ∨ k = 5 ∨ k = 6 ∨ k = 7 ∨ k = 8 ∨ k = 9 ∨ k = 10 ∨ k = 11 ∨ k = 12 := by omega
  rcases this with rfl | rfl | rfl | rfl | rfl | rfl | rfl | rfl | rfl | rfl | rfl | rfl | rfl <;> decide
/-- a domain's first power -/
def rootF (k : Nat) : Int := ipow 288230376287764481 3 (288230376287764480 / 2 ^ k)
theorem ipow_w {a e : Int} (ha : 0 ≤ a) (he : w64 e) : w64 (ipow 288230376287764481 a e) := by
  rw [ipow_eq (by decide) ha he]; exact w64_r _
theorem rootF_w (k : Nat) (h : k ≤ 12) : w64 (rootF k) := by
  refine ipow_w (by decide) ?_
  have := two_le h
  exact (shr_b (y := 288230376287764480) (k := k) (by decide) (by omega)).2
theorem shr_root {k : Nat} (h : k ≤ 12) : (288230376287764480 : Int).fdiv (2 ^ min ((k:Int).toNat) IntKind.u64.bits) = 288230376287764480 / 2 ^ k := by
  rw [Int.toNat_natCast]; exact (shr_b (y := 288230376287764480) (by decide) (by omega)).1
theorem w64_root {k : Nat} (h : k ≤ 12) : w64 (288230376287764480 / 2 ^ k) := (shr_b (y := 288230376287764480) (k := k) (by decide) (by omega)).2
set_option maxHeartbeats 1000000 in
theorem poly_Root_c {k : Nat} (h : k ≤ 12) : Fn Try.prog 36 [i k] [] (fun r _ => r = .tup [u (rootF k), nil_]) := by
  refine Fn.enter Try.func36 Try.ntmps36 rfl (h := ?_)
  have tf := tf
  have ot_ : (false || true) = true := rfl
  have k0 : ¬ (k:Int) < 0 := by omega
  have k1 : decide ((k:Int) < 0) = false := by simp
  have k2 : decide ((k:Int) > 12) = false := by simp; omega
  have sh := shr_root h
  rw [Int.toNat_natCast] at sh
  have hw := w64_root h
  unfold rootF
  repeat refine AW.seq ?_
  refine AW.reg ?_
  iterate 2 refine AOL.s1 (h := ?_)
  refine AOL.nil ?_
  refine AW.kq [0] (h := ?_)
  repeat refine AW.seq ?_
  refine AW.reg ?_
  iterate 3 refine AOL.s1 (h := ?_)
  refine AOL.kq [0, 6] (h := ?_)
  refine AOL.or 6 9 (os' := ?_) (x := ?_) (h1 := ?_) (h0 := ?_) (h := ?_)
  rotate_left 2
  iterate 2
    · intro hb_ K' hK; (iterate 3 refine AOL.s1 (h := ?_)); refine AOL.kq [0, 9] (h := ?_); exact hK
  refine AOL.nil ?_
  refine AW.kq [0, 9] (h := ?_)
  repeat refine AW.seq ?_
  refine AW.cond rfl (fun c_ => ?_) (fun c_ => ?_)
  · simp at c_ <;> omega
  refine AW.skip ?_
  repeat refine AW.seq ?_
  refine AW.reg ?_
  iterate 2 refine AOL.s1 (h := ?_)
  refine AOL.callD rfl (modular_Pow_c hR (by decide) hw) (by kernel_rfl) rfl rfl (h := ?_)
  iterate 2 refine AOL.s1 (h := ?_)
  refine AOL.nil ?_
  refine AW.kq [2, 3] (h := ?_)
  repeat refine AW.seq ?_
  refine AW.ret ?_
  refine ⟨_, [], rfl, HOk.nil _, ?_⟩
  rfl
set_option maxHeartbeats 1000000 in
theorem obolref13_Root_c {k : Nat} (h : k ≤ 12) : Fn Try.prog 20 [i k] [] (fun r _ => r = u (rootF k)) := by
  refine Fn.enter Try.func20 Try.ntmps20 rfl (h := ?_)
  have tf := tf
  have ot_ : (false || true) = true := rfl
  have k0 : ¬ (k:Int) < 0 := by omega
  have sh := shr_root h
  rw [Int.toNat_natCast] at sh
  have hw := w64_root h
  unfold rootF
  repeat refine AW.seq ?_
  refine AW.reg ?_
  iterate 1 refine AOL.s1 (h := ?_)
  refine AOL.nil ?_
  refine AW.kq [0] (h := ?_)
  repeat refine AW.seq ?_
  refine AW.reg ?_
  iterate 2 refine AOL.s1 (h := ?_)
  refine AOL.callD rfl (obolref01_Pow_c hR' (by decide) hw) (by kernel_rfl) rfl rfl (h := ?_)
  iterate 1 refine AOL.s1 (h := ?_)
  refine AOL.nil ?_
  refine AW.kq [2] (h := ?_)
  repeat refine AW.seq ?_
  refine AW.ret ?_
  refine ⟨_, [], rfl, HOk.nil _, ?_⟩
  rfl
/-- a power of the first one -/
def pw (w : Int) : Nat → Int
  | 0 => 1
  | j + 1 => pw w j * w % 288230376287764481
theorem pw_w (w : Int) : ∀ j, w64 (pw w j)
  | 0 => by show w64 1; decide
  | j + 1 => w64_r _
def ptsL (w : Int) (n : Nat) : List Int := (List.range n).map (pw w)
theorem ptsL_len (w : Int) (n : Nat) : (ptsL w n).length = n := by simp [ptsL]
theorem ptsL_succ (w : Int) (n : Nat) : ptsL w (n + 1) = ptsL w n ++ [pw w n] := by simp [ptsL, List.range_succ]
theorem ptsL_get (w : Int) {n j : Nat} (h : j < n) : (ptsL w n)[j]? = some (pw w j) := by simp [ptsL, h]
theorem ptsL_w (w : Int) (n : Nat) : wV (ptsL w n) := by
  intro v hv
  obtain ⟨j, _, rfl⟩ := List.mem_map.1 hv
  exact pw_w w j
set_option maxHeartbeats 4000000 in
theorem obolref13_Points_c {k : Nat} (h : k ≤ 12) : Fn Try.prog 11 [i k] [] (fun r _ => r = ul (ptsL (rootF k) (2 ^ k))) := by
  refine Fn.enter Try.func11 Try.ntmps11 rfl (h := ?_)
  have tf := tf
  have ot_ : (false || true) = true := rfl
  have cr := obolref13_Root_c h
  have hr := rootF_w k h
  have k0 : ¬ (k:Int) < 0 := by omega
  have sh := shlk (k := k) (by omega)
  rw [Int.toNat_natCast] at sh
  obtain ⟨t1, t2⟩ := two_le h
  generalize rootF k = w at *
  generalize 2 ^ k = N at *
  repeat refine AW.seq ?_
  refine AW.reg ?_
  iterate 1 refine AOL.s1 (h := ?_)
  refine AOL.nil ?_
  refine AW.kq [0] (h := ?_)
  repeat refine AW.seq ?_
  refine AW.reg ?_
  iterate 2 refine AOL.s1 (h := ?_)
  refine AOL.nil ?_
  refine AW.kq [0, 3] (h := ?_)
  repeat refine AW.seq ?_
  refine AW.reg ?_
  iterate 1 refine AOL.s1 (h := ?_)
  refine AOL.callD rfl (cr) (by kernel_rfl) rfl rfl (h := ?_)
  iterate 1 refine AOL.s1 (h := ?_)
  refine AOL.nil ?_
  refine AW.kq [0, 3, 4] (h := ?_)
  repeat refine AW.seq ?_
  refine AW.reg ?_
  iterate 1 refine AOL.s1 (h := ?_)
  refine AOL.nil ?_
  refine AW.kq [0, 3, 4, 5] (h := ?_)
  repeat refine AW.seq ?_
  refine AW.block ?_
  repeat refine AW.seq ?_
  refine AW.loopK [0, 3, 4, 5] (fun n s => ∃ (j : Nat), s = ⟨26, [(0, i k), (3, .ref 1096 0 j 1), (4, u w), (5, i j)], [(1096, blk (ptsL w j))]⟩ ∧ 1 ≤ j ∧ j ≤ N ∧ n = N - j) (N - 1) ?_ ?_
  · exact ⟨1, rfl, Nat.le_refl _, t1, rfl⟩
  rintro n s ⟨j, rfl, j1, jN, rfl⟩
  repeat refine AW.seq ?_
  refine AW.reg ?_
  iterate 4 refine AOL.s1 (h := ?_)
  refine AOL.nil ?_
  refine AW.kq [0, 3, 4, 5, 12] (h := ?_)
  repeat refine AW.seq ?_
  refine AW.cond rfl (fun c_ => ?_) (fun c_ => ?_)
  · have hj : j < N := by have : (j:Int) < N := by simpa using c_
                          omega
    obtain ⟨m, rfl⟩ : ∃ m, j = m + 1 := ⟨j - 1, by omega⟩
    have hg := ptsL_get w (n := m + 1) (j := m) (by omega)
    obtain ⟨v, hv, hvw, hvd⟩ := at_nat (V := ptsL w (m + 1)) (n := m) (by rw [ptsL_len]; omega) (ptsL_w _ _)
    have hv' : v = pw w m := by rw [hg] at hv; exact (Option.some.inj hv).symm
    subst hv'
    have hl := ptsL_len w (m + 1)
    have hjw : IntKind.i64.wrap (((m + 1 : Nat) : Int) - 1) = (m : Int) := by rw [wrapI_o (by omega) (by omega)]; omega
    have m0 : (0:Int) ≤ m := by omega
    have m1 : (m:Int) < ((m + 1 : Nat) : Int) := by omega
    have hw := inc_ (k := m + 1) hj (by omega)
    have hs : fm u1 (ptsL w (m + 1)) ++ [u (pw w m * w % 288230376287764481)] = fm u1 (ptsL w (m + 1 + 1)) := by
      rw [ptsL_succ w (m + 1), fm_app]; rfl
    have hfl := fml (ptsL w (m + 1))
    rw [hl] at hfl
    have b1 : m + 1 + 1 ≤ 140737488355328 := by omega
    have b2 : (m + 1 + 1) * 8 ≤ 140737488355328 := by omega
    have b3 : m + 1 + 1 ≤ 4611686018427387904 := by omega
    have b4 : m + 1 ≤ 140737488355327 := by omega
    have b5 : m + 1 ≤ 4611686018427387903 := by omega
    have hpw := pw_w w m
    clear hg hv hl c_ t2
    refine AW.skip ?_
    repeat refine AW.seq ?_
    refine AW.block ?_
    repeat refine AW.seq ?_
    refine AW.reg ?_
    iterate 7 refine AOL.s1 (h := ?_)
    refine AOL.callD rfl (obolref07_Mul_c hpw hr) (by kernel_rfl) rfl rfl (h := ?_)
    iterate 3 refine AOL.s1 (h := ?_)
    refine AOL.nil ?_
    repeat refine AW.seq ?_
    refine AW.let 1368 (h := ?_)
    refine AW.reg ?_
    iterate 3 refine AOL.s1 (h := ?_)
    refine AOL.nil ?_
    exact ⟨N - (m + 1 + 1), by omega, m + 1 + 1, rfl, by omega, hj, rfl⟩
  · have hj : j = N := by have : ¬ (j:Int) < N := by simpa using c_
                          omega
    subst hj
    have hsub : sub 0 j (fm u1 (ptsL w j)) = fm u1 (ptsL w j) := sub_all (Nat.le_of_eq (by rw [fml, ptsL_len]))
    have hln := ptsL_len w j
    repeat refine AW.seq ?_
    refine AW.exit ?_
    repeat (first | refine Kseq.ex ?_ | refine Kloop.ex ?_ | refine Kblock.miss (by decide) ?_)
    refine Kblock.hit ?_
    refine AW.kq [3] (h := ?_)
    repeat refine AW.seq ?_
    refine AW.reg ?_
    iterate 2 refine AOL.s1 (h := ?_)
    refine AOL.nil ?_
    refine AW.kq [2] (h := ?_)
    repeat refine AW.seq ?_
    refine AW.fz 1096 rfl (fun h => by cases h) (h := ?_)
    refine AW.ret ?_
    refine ⟨_, [], rfl, HOk.nil _, ?_⟩
    show AV.sl j (sub 0 (j * 1) (fm u1 (ptsL w j))) = AV.sl (ptsL w j).length (fm u1 (ptsL w j))
    rw [hln, Nat.mul_one, hsub]
end Go.Proofs.Ytgcgkpeffjbneaa.E.M

