/- obolref06.Mark: a contract over E. -/
import Derived.Test.YthajlelljnkdiaaMrk
import Derived.Test.YthajlelljnkdiaaProg
import Derived.KernelRfl
set_option linter.unusedVariables false
set_option linter.unusedSimpArgs false
set_option maxRecDepth 10000
open Go Go.Proofs.Ythajlelljnkdiaa.E Go.Proofs
namespace Go.Proofs.Ythajlelljnkdiaa.E.M
set_option maxHeartbeats 32000000 in
theorem obolref06_Mark_c {K B : List Int} (lK : K.length = 32) (dK : dig K) (dB : dig B) (lB : B.length < 1000000) : Fn Try.prog 53 [.sl 32 (by8 K), sl8 B] [] (fun r h_ => r = .sl 16 (by8 (mrkF K B))) := by
  refine Fn.enter Try.func53 Try.ntmps53 rfl (h := ?_)
  have tf := tfk
  have ot_ : (false || true) = true := rfl
  unfold mrkF
  have mk16 : ∀ st d, aMake Try.prog st d 50 16 16 = some (.ref (lab d) 0 16 1, st.new (lab d) (k64 (List.replicate 16 0))) := mkI (n := 16) (by omega)
  have mk17 : ∀ st d, aMake Try.prog st d 50 17 17 = some (.ref (lab d) 0 17 1, st.new (lab d) (k64 (List.replicate 17 0))) := mkI (n := 17) (by omega)
  have mk34 : ∀ st d, aMake Try.prog st d 50 34 34 = some (.ref (lab d) 0 34 1, st.new (lab d) (k64 (List.replicate 34 0))) := mkI (n := 34) (by omega)
  have mkb : ∀ st d, aMake Try.prog st d 57 16 16 = some (.ref (lab d) 0 16 1, st.new (lab d) ⟨5, false, by8 (List.replicate 16 0)⟩) := mkB (n := 16) (by omega)
  have al : ∀ V, (a64 V).length = V.length := a64_len
  have sl : ∀ V k v, (a64 V).set k (c64 v) = a64 (V.set k v) := a64_set
  have dl : ∀ (V : List Int) (k : Nat), k < V.length → (a64 V).drop k = c64 (at_ V k) :: a64 (V.drop (k + 1)) := fun V k h => a64_at h
  have db : ∀ (V : List Int) (k : Nat), k < V.length → (by8 V).drop k = .val (.int .u8 (at_ V k)) :: by8 (V.drop (k + 1)) := fun V k h => by8_atn h
  have ls : ∀ (V : List Int) (k : Nat) (v : Int), (V.set k v).length = V.length := fun V k v => List.length_set
  have dR := clampF_dig dK
  have lR := clampF_len K
  repeat refine AW.seq ?_
  refine AW.reg ?_
  iterate 1 refine AOL.s1 (h := ?_)
  refine AOL.nil ?_
  refine AW.kq [0, 1] (h := ?_)
  repeat refine AW.seq ?_
  refine AW.reg ?_
  iterate 2 refine AOL.s1 (h := ?_)
  refine AOL.nil ?_
  refine AW.kq [0, 1, 5] (h := ?_)
  repeat refine AW.seq ?_
  refine AW.reg ?_
  iterate 1 refine AOL.s1 (h := ?_)
  refine AOL.nil ?_
  refine AW.kq [0, 1, 5, 6] (h := ?_)
  repeat refine AW.seq ?_
  refine AW.block ?_
  repeat refine AW.seq ?_
  refine AW.loopK [0, 1, 5, 6] (fun n' s => ∃ (j : Nat), s = ⟨163, [(0, .sl 32 (by8 K)), (1, sl8 B), (5, .ref 1272 0 16 1), (6, i j)], [(1272, k64 ((clampF K).take j ++ List.replicate (16 - j) 0))]⟩ ∧ j + n' = 16) (16) ?_ ?_
  · exact ⟨0, rfl, rfl⟩
  rintro n' s ⟨j, rfl, hj⟩
  repeat refine AW.seq ?_
  refine AW.reg ?_
  iterate 2 refine AOL.s1 (h := ?_)
  refine AOL.nil ?_
  refine AW.kq [0, 1, 5, 6, 19] (h := ?_)
  repeat refine AW.seq ?_
  refine AW.cond rfl (fun c_ => ?_) (fun c_ => ?_)
  · have j1 : j < 16 := by simp at c_; omega
    obtain ⟨m, rfl⟩ : ∃ m, n' = m + 1 := ⟨n' - 1, by omega⟩
    have k2 : IntKind.i64.wrap ((j : Int) + 1) = ((j + 1 : Nat) : Int) := by rw [wrapI_o (by omega) (by omega)]; omega
    have j0 : (0:Int) ≤ j := by omega
    have j2 : (j:Int) < ((16:Nat):Int) := by omega
    have j3 : (j:Int) < ((32:Nat):Int) := by omega
    have j4 : j < 32 := by omega
    have j5 : j < 16 := by omega
    have j6 : j + 1 ≤ 16 := by omega
    have j7 : j ≤ 15 := by omega
    have ha := dig_at dK j
    have w0 : IntKind.i64.wrap (at_ K j) = at_ K j := wrapI_o (by omega) (by omega)
    have w1 : Int.tmod (at_ K j) 16 = at_ K j % 16 := tmod_nn (by omega)
    have w2 : Int.tmod (j:Int) 4 = ((j % 4 : Nat) : Int) := by rw [tmod_nn (by omega)]; omega
    have lO : ((clampF K).take j ++ List.replicate (16 - j) (0:Int)).length = 16 := by rw [List.length_append, List.length_take, List.length_replicate, lR]; omega
    have fs := fill_set (clampF K) (n := 16) (j := j) lR j1
    rw [clampF_at K j1] at fs
    replace fs : id (_ = _) := fs
    clear c_
    generalize hO : ((clampF K).take j ++ List.replicate (16 - j) (0:Int)) = O at *
    have sO : ∀ v u, (O.set j v).set j u = O.set j u := fun v u => List.set_set ..
    have aO : ∀ v, at_ (O.set j v) j = v := fun v => at_set v (by omega)
    refine AW.skip ?_
    repeat refine AW.seq ?_
    refine AW.block ?_
    repeat refine AW.seq ?_
    refine AW.reg ?_
    iterate 9 refine AOL.s1 (h := ?_)
    refine AOL.nil ?_
    refine AW.kq [0, 1, 5, 6] (h := ?_)
    repeat refine AW.seq ?_
    refine AW.reg ?_
    iterate 3 refine AOL.s1 (h := ?_)
    refine AOL.nil ?_
    refine AW.kq [0, 1, 5, 6, 32] (h := ?_)
    repeat refine AW.seq ?_
    refine AW.midK [0, 1, 5, 6] (fun t => ∃ x, t = ⟨163, [(0, .sl 32 (by8 K)), (1, sl8 B), (5, .ref 1272 0 16 1), (6, i j)], [(1272, k64 (O.set j x))]⟩ ∧ (if j % 4 = 3 then at_ K j % 16 else at_ K j) = x) ?_ ?_
    · refine AW.cond rfl (fun d_ => ?_) (fun d_ => ?_)
      · have d1 : j % 4 = 3 := by simp at d_; omega
        repeat refine AW.seq ?_
        refine AW.reg ?_
        iterate 9 refine AOL.s1 (h := ?_)
        refine AOL.nil ?_
        exact ⟨_, rfl, if_pos d1⟩
      · have d1 : ¬ j % 4 = 3 := by simp at d_; omega
        refine AW.skip ?_
        exact ⟨_, rfl, if_neg d1⟩
    rintro t ⟨x, rfl, hx⟩
    repeat refine AW.seq ?_
    refine AW.reg ?_
    iterate 4 refine AOL.s1 (h := ?_)
    refine AOL.kq [0, 1, 5, 6, 44] (h := ?_)
    refine AOL.and 44 47 (os' := ?_) (x := ?_) (h1 := ?_) (h0 := ?_) (h := ?_)
    rotate_left 2
    iterate 2
      · intro hb_ K' hK; (iterate 3 refine AOL.s1 (h := ?_)); refine AOL.kq [0, 1, 5, 6, 47] (h := ?_); exact hK
    refine AOL.nil ?_
    refine AW.kq [0, 1, 5, 6, 47] (h := ?_)
    repeat refine AW.seq ?_
    refine AW.cond rfl (fun e_ => ?_) (fun e_ => ?_)
    · have e1 : j % 4 = 0 ∧ 0 < j := by simp only [Bool.and_eq_true, beq_iff_eq, decide_eq_true_eq] at e_; omega
      have x1 : at_ K j = x := by rw [← hx, if_neg (by omega)]
      have x2 : 0 ≤ x ∧ x < 256 := by rw [← x1]; exact ha
      have w3 : Int.tdiv x 4 = x / 4 := tdiv_nn (by omega)
      have w4 : IntKind.i64.wrap (x / 4) = x / 4 := wrapI_o (by omega) (by omega)
      have w5 : IntKind.i64.wrap (x / 4 * 4) = x / 4 * 4 := wrapI_o (by omega) (by omega)
      have fs : _ = _ := fs
      unfold clN at fs
      rw [if_neg (by omega), if_pos e1, x1] at fs
      replace fs : id (_ = _) := fs
      clear e_ hx x1
      repeat refine AW.seq ?_
      refine AW.reg ?_
      iterate 10 refine AOL.s1 (h := ?_)
      refine AOL.nil ?_
      repeat refine AW.seq ?_
      refine AW.reg ?_
      iterate 3 refine AOL.s1 (h := ?_)
      refine AOL.nil ?_
      exact ⟨m, by omega, j + 1, by rw [← show _ = _ from fs]; rfl, by omega⟩
    · have e1 : ¬ (j % 4 = 0 ∧ 0 < j) := by
        intro h
        have h1 : ((j % 4 : Nat) : Int) = 0 := by omega
        have h2 : (j : Int) > 0 := by omega
        rw [beq_iff_eq.2 h1, decide_eq_true h2] at e_
        cases e_
      have fs : _ = _ := fs
      unfold clN at fs
      rw [if_neg e1, hx] at fs
      refine AW.skip ?_
      repeat refine AW.seq ?_
      refine AW.reg ?_
      iterate 3 refine AOL.s1 (h := ?_)
      refine AOL.nil ?_
      exact ⟨m, by omega, j + 1, by rw [← fs]; rfl, by omega⟩
  · obtain rfl : j = 16 := by simp at c_; omega
    rw [Nat.sub_self, List.replicate_zero, List.append_nil, List.take_of_length_le (by omega)]
    clear c_ hj
    generalize clampF K = R at *
    repeat refine AW.seq ?_
    refine AW.exit ?_
    repeat (first | refine Kseq.ex ?_ | refine Kloop.ex ?_ | refine Kblock.miss (by decide) ?_)
    refine Kblock.hit ?_
    refine AW.fz 1272 rfl (fun h => by cases h) (h := ?_)
    refine AW.kq [0, 1, 5] (h := ?_)
    rw [sub_all (by rw [a64_len]; omega)]
    generalize hM : (B.length + 15) / 16 = M at *
    repeat refine AW.seq ?_
    refine AW.reg ?_
    iterate 2 refine AOL.s1 (h := ?_)
    refine AOL.nil ?_
    refine AW.kq [0, 1, 5, 7] (h := ?_)
    repeat refine AW.seq ?_
    refine AW.reg ?_
    iterate 1 refine AOL.s1 (h := ?_)
    refine AOL.nil ?_
    refine AW.kq [0, 1, 5, 7, 8] (h := ?_)
    repeat refine AW.seq ?_
    refine AW.block ?_
    repeat refine AW.seq ?_
    refine AW.loopK [0, 1, 5, 7, 8] (fun n' s => ∃ (m : Nat), s = ⟨163, [(0, .sl 32 (by8 K)), (1, sl8 B), (5, .sl 16 (a64 R)), (7, .ref 1912 0 17 1), (8, i ((16 * m : Nat) : Int))], [(1912, k64 (mrkS R B m))]⟩ ∧ m + n' = M) (M) ?_ ?_
    · exact ⟨0, rfl, by omega⟩
    rintro n' s ⟨m, rfl, hj⟩
    have lH := mrkS_len R B m
    have dH := mrkS_dig R B m
    have hS : mrkS R B (m + 1) = chuF (mrkS R B m) R (B.drop (16 * m)) := rfl
    generalize hH : mrkS R B m = H at *
    replace hS : id (_ = _) := hS
    repeat refine AW.seq ?_
    refine AW.reg ?_
    iterate 4 refine AOL.s1 (h := ?_)
    refine AOL.nil ?_
    refine AW.kq [0, 1, 5, 7, 8, 61] (h := ?_)
    repeat refine AW.seq ?_
    refine AW.cond rfl (fun c_ => ?_) (fun c_ => ?_)
    · have m1 : 16 * m < B.length := by simp at c_; omega
      obtain ⟨m2, rfl⟩ : ∃ m2, n' = m2 + 1 := ⟨n' - 1, by omega⟩
      have km : IntKind.i64.wrap (((16 * m : Nat) : Int) + 16) = ((16 * (m + 1) : Nat) : Int) := by rw [wrapI_o (by omega) (by omega)]; omega
      have lC : (B.drop (16 * m)).length = B.length - 16 * m := List.length_drop
      have dC := dB.drop (16 * m)
      have aC := at_drop B (16 * m)
      clear c_
      generalize hC : B.drop (16 * m) = C at *
      generalize hkk : min 16 C.length = kk at *
      have hk1 : kk ≤ 16 := by omega
      have hk2 : 16 * m + kk ≤ B.length := by omega
      have hk3 : kk < 16 → ¬ 16 * m + kk < B.length := by omega
      unfold chuF at hS
      rw [hkk] at hS
      refine AW.skip ?_
      repeat refine AW.seq ?_
      refine AW.block ?_
      repeat refine AW.seq ?_
      refine AW.reg ?_
      iterate 1 refine AOL.s1 (h := ?_)
      refine AOL.nil ?_
      refine AW.kq [0, 1, 5, 7, 8, 9] (h := ?_)
      repeat refine AW.seq ?_
      refine AW.block ?_
      repeat refine AW.seq ?_
      refine AW.loopK [0, 1, 5, 7, 8, 9] (fun n' s => ∃ (k : Nat), s = ⟨163, [(0, .sl 32 (by8 K)), (1, sl8 B), (5, .sl 16 (a64 R)), (7, .ref 1912 0 17 1), (8, i ((16 * m : Nat) : Int)), (9, i k)], [(1912, k64 (addC H C k))]⟩ ∧ k + n' = kk) (kk) ?_ ?_
      · exact ⟨0, rfl, by omega⟩
      rintro n' s ⟨k, rfl, hk⟩
      have wk : IntKind.i64.wrap (((16 * m : Nat) : Int) + (k : Int)) = ((16 * m + k : Nat) : Int) := by rw [wrapI_o (by omega) (by omega)]; omega
      repeat refine AW.seq ?_
      refine AW.reg ?_
      iterate 3 refine AOL.s1 (h := ?_)
      refine AOL.kq [0, 1, 5, 7, 8, 9, 66] (h := ?_)
      refine AOL.and 66 73 (os' := ?_) (x := ?_) (h1 := ?_) (h0 := ?_) (h := ?_)
      rotate_left 2
      iterate 2
        · intro hb_ K' hK; (iterate 7 refine AOL.s1 (h := ?_)); refine AOL.kq [0, 1, 5, 7, 8, 9, 73] (h := ?_); exact hK
      refine AOL.nil ?_
      refine AW.kq [0, 1, 5, 7, 8, 9, 73] (h := ?_)
      repeat refine AW.seq ?_
      refine AW.cond rfl (fun d_ => ?_) (fun d_ => ?_)
      · have d1 : k < 16 ∧ 16 * m + k < B.length := by simp only [Bool.and_eq_true, decide_eq_true_eq] at d_; omega
        obtain ⟨n, rfl⟩ : ∃ n, n' = n + 1 := ⟨n' - 1, by omega⟩
        have k2 : IntKind.i64.wrap ((k : Int) + 1) = ((k + 1 : Nat) : Int) := by rw [wrapI_o (by omega) (by omega)]; omega
        have j0 : (0:Int) ≤ k := by omega
        have j2 : (k:Int) < ((17:Nat):Int) := by omega
        have j3 : (0:Int) ≤ ((16 * m + k : Nat) : Int) := by omega
        have j4 : ((16 * m + k : Nat) : Int) < B.length := by omega
        have j5 : 16 * m + k < B.length := by omega
        have j6 : k < 17 := by omega
        have j7 : k ≤ 16 := by omega
        have lA := addC_len H C k
        rw [lH] at lA
        have ac := aC k
        have bA := addC_bnd dH.bnd dC k k
        have bC := dig_at dC k
        have w0 : IntKind.i64.wrap (at_ C k) = at_ C k := wrapI_o (by omega) (by omega)
        have w1 : IntKind.i64.wrap (at_ (addC H C k) k + at_ C k) = at_ (addC H C k) k + at_ C k := wrapI_o (by omega) (by omega)
        replace ac : at_ B (16 * m + k) = at_ C k := ac.symm
        clear d_ aC
        refine AW.skip ?_
        repeat refine AW.seq ?_
        refine AW.block ?_
        repeat refine AW.seq ?_
        refine AW.drw 14 [] (by kernel_rfl) (h := ?_)
        iterate 14 refine ADL.dm 1 (h := ?_)
        refine ADL.done hmix rfl rfl (hT := ?_)
        iterate 2 refine AOL.s1 (h := ?_)
        refine AOL.nil ?_
        refine AW.kq [0, 1, 5, 7, 8, 9] (h := ?_)
        repeat refine AW.seq ?_
        refine AW.reg ?_
        iterate 3 refine AOL.s1 (h := ?_)
        refine AOL.nil ?_
        exact ⟨n, by omega, k + 1, rfl, by omega⟩
      · have d1 : ¬ (k < 16 ∧ 16 * m + k < B.length) := by
          intro h
          have h1 : (k : Int) < 16 := by omega
          have h2 : ((16 * m + k : Nat) : Int) < B.length := by omega
          rw [decide_eq_true h1, decide_eq_true h2] at d_
          cases d_
        obtain rfl : k = kk := by omega
        have j0 : (0:Int) ≤ k := by omega
        have j2 : (k:Int) < ((17:Nat):Int) := by omega
        have j6 : k < 17 := by omega
        have j7 : k ≤ 16 := by omega
        have lA := addC_len H C k
        rw [lH] at lA
        have bA := addC_bnd dH.bnd dC k
        have bI := incC_bnd bA k
        have lI := incC_len (addC H C k) k
        rw [lA] at lI
        have bk := bA k
        have w1 : IntKind.i64.wrap (at_ (addC H C k) k + 1) = at_ (addC H C k) k + 1 := wrapI_o (by omega) (by omega)
        have hI : (addC H C k).set k (at_ (addC H C k) k + 1) = incC (addC H C k) k := rfl
        clear d_ aC hC hkk
        generalize incC (addC H C k) k = G at *
        repeat refine AW.seq ?_
        refine AW.exit ?_
        repeat (first | refine Kseq.ex ?_ | refine Kloop.ex ?_ | refine Kblock.miss (by decide) ?_)
        refine Kblock.hit ?_
        refine AW.kq [0, 1, 5, 7, 8, 9] (h := ?_)
        repeat refine AW.seq ?_
        refine AW.reg ?_
        iterate 7 refine AOL.s1 (h := ?_)
        refine AOL.nil ?_
        refine AW.kq [0, 1, 5, 7, 8] (h := ?_)
        clear w1 hI bk bA lA
        have bI : bnd_ G 511 := bI.mono (by omega)
        have bR := dR.bnd
        repeat refine AW.seq ?_
        refine AW.reg ?_
        iterate 2 refine AOL.s1 (h := ?_)
        refine AOL.nil ?_
        refine AW.kq [0, 1, 5, 7, 8, 10] (h := ?_)
        repeat refine AW.seq ?_
        refine AW.reg ?_
        iterate 1 refine AOL.s1 (h := ?_)
        refine AOL.nil ?_
        refine AW.kq [0, 1, 5, 7, 8, 10, 11] (h := ?_)
        repeat refine AW.seq ?_
        refine AW.block ?_
        repeat refine AW.seq ?_
        refine AW.loopK [0, 1, 5, 7, 8, 10, 11] (fun n' s => ∃ (a : Nat), s = ⟨163, [(0, .sl 32 (by8 K)), (1, sl8 B), (5, .sl 16 (a64 R)), (7, .ref 1912 0 17 1), (8, i ((16 * m : Nat) : Int)), (10, .ref 2552 0 34 1), (11, i a)], [(1912, k64 G), (2552, k64 (mulP G R a))]⟩ ∧ a + n' = 17) (17) ?_ ?_
        · exact ⟨0, rfl, rfl⟩
        rintro n' s ⟨a, rfl, ha⟩
        repeat refine AW.seq ?_
        refine AW.reg ?_
        iterate 2 refine AOL.s1 (h := ?_)
        refine AOL.nil ?_
        refine AW.kq [0, 1, 5, 7, 8, 10, 11, 99] (h := ?_)
        repeat refine AW.seq ?_
        refine AW.cond rfl (fun d_ => ?_) (fun d_ => ?_)
        · have a1 : a < 17 := by simp at d_; omega
          obtain ⟨n, rfl⟩ : ∃ n, n' = n + 1 := ⟨n' - 1, by omega⟩
          have k2 : IntKind.i64.wrap ((a : Int) + 1) = ((a + 1 : Nat) : Int) := by rw [wrapI_o (by omega) (by omega)]; omega
          have i0 : (0:Int) ≤ a := by omega
          have i2 : (a:Int) < ((17:Nat):Int) := by omega
          have i6 : a < 17 := by omega
          have i7 : a ≤ 16 := by omega
          have lP := mulP_len G R a
          have bP := mulP_bnd bI bR a
          have hP : mulP G R (a + 1) = mulR G R a 16 (mulP G R a) := rfl
          generalize mulP G R a = P at *
          replace hP : id (_ = _) := hP
          clear d_
          refine AW.skip ?_
          repeat refine AW.seq ?_
          refine AW.block ?_
          repeat refine AW.seq ?_
          refine AW.reg ?_
          iterate 1 refine AOL.s1 (h := ?_)
          refine AOL.nil ?_
          refine AW.kq [0, 1, 5, 7, 8, 10, 11, 12] (h := ?_)
          repeat refine AW.seq ?_
          refine AW.block ?_
          repeat refine AW.seq ?_
          refine AW.loopK [0, 1, 5, 7, 8, 10, 11, 12] (fun n' s => ∃ (b : Nat), s = ⟨163, [(0, .sl 32 (by8 K)), (1, sl8 B), (5, .sl 16 (a64 R)), (7, .ref 1912 0 17 1), (8, i ((16 * m : Nat) : Int)), (10, .ref 2552 0 34 1), (11, i a), (12, i b)], [(1912, k64 G), (2552, k64 (mulR G R a b P))]⟩ ∧ b + n' = 16) (16) ?_ ?_
          · exact ⟨0, rfl, rfl⟩
          rintro n' s ⟨b, rfl, hb⟩
          repeat refine AW.seq ?_
          refine AW.reg ?_
          iterate 2 refine AOL.s1 (h := ?_)
          refine AOL.nil ?_
          refine AW.kq [0, 1, 5, 7, 8, 10, 11, 12, 103] (h := ?_)
          repeat refine AW.seq ?_
          refine AW.cond rfl (fun e_ => ?_) (fun e_ => ?_)
          · have b1 : b < 16 := by simp at e_; omega
            obtain ⟨n2, rfl⟩ : ∃ n, n' = n + 1 := ⟨n' - 1, by omega⟩
            have k3 : IntKind.i64.wrap ((b : Int) + 1) = ((b + 1 : Nat) : Int) := by rw [wrapI_o (by omega) (by omega)]; omega
            have k4 : IntKind.i64.wrap ((a : Int) + (b : Int)) = ((a + b : Nat) : Int) := by rw [wrapI_o (by omega) (by omega)]; omega
            have j0 : (0:Int) ≤ b := by omega
            have j2 : (b:Int) < ((16:Nat):Int) := by omega
            have j6 : b < 16 := by omega
            have q0 : (0:Int) ≤ ((a + b : Nat) : Int) := by omega
            have q1 : ((a + b : Nat) : Int) < ((34:Nat):Int) := by omega
            have q2 : a + b < 34 := by omega
            have q3 : a + b ≤ 33 := by omega
            have lQ := mulR_len G R a b P
            rw [lP] at lQ
            have bQ := mulR_bnd bI bR a b bP (a + b)
            have bg := bI a
            have br := bR b
            have bp := prod_bd bg.1 bg.2 br.1 br.2
            have w1 : IntKind.i64.wrap (at_ G a * at_ R b) = at_ G a * at_ R b := wrapI_o (by omega) (by omega)
            have w2 : IntKind.i64.wrap (at_ (mulR G R a b P) (a + b) + at_ G a * at_ R b) = at_ (mulR G R a b P) (a + b) + at_ G a * at_ R b := wrapI_o (by omega) (by omega)
            clear e_
            refine AW.skip ?_
            repeat refine AW.seq ?_
            refine AW.block ?_
            repeat refine AW.seq ?_
            refine AW.drw 20 [] (by kernel_rfl) (h := ?_)
            iterate 20 refine ADL.dm 1 (h := ?_)
            refine ADL.done hmix rfl rfl (hT := ?_)
            iterate 2 refine AOL.s1 (h := ?_)
            refine AOL.nil ?_
            repeat refine AW.seq ?_
            refine AW.reg ?_
            iterate 3 refine AOL.s1 (h := ?_)
            refine AOL.nil ?_
            exact ⟨n2, by omega, b + 1, rfl, by omega⟩
          · obtain rfl : b = 16 := by simp at e_; omega
            rw [← show _ = _ from hP]
            repeat refine AW.seq ?_
            refine AW.exit ?_
            repeat (first | refine Kseq.ex ?_ | refine Kloop.ex ?_ | refine Kblock.miss (by decide) ?_)
            refine Kblock.hit ?_
            repeat refine AW.seq ?_
            refine AW.reg ?_
            iterate 3 refine AOL.s1 (h := ?_)
            refine AOL.nil ?_
            exact ⟨n, by omega, a + 1, rfl, by omega⟩
        · obtain rfl : a = 17 := by simp at d_; omega
          have vP := mulP_vl bI bR
          have lP := mulP_len G R 17
          have bP := mulP_bnd bI bR 17
          generalize mulP G R 17 = P at *
          have cT := obolref06_rest_c (p := P) (fun v hv => by have := bP.mem v hv; omega) (by omega) vP
          unfold sl64 at cT
          rw [lP] at cT
          clear d_
          repeat refine AW.seq ?_
          refine AW.exit ?_
          repeat (first | refine Kseq.ex ?_ | refine Kloop.ex ?_ | refine Kblock.miss (by decide) ?_)
          refine Kblock.hit ?_
          refine AW.fz 2552 rfl (fun h => by cases h) (h := ?_)
          refine AW.kq [0, 1, 5, 8, 10] (h := ?_)
          rw [sub_all (by rw [a64_len]; omega)]
          repeat refine AW.seq ?_
          refine AW.reg ?_
          iterate 1 refine AOL.s1 (h := ?_)
          refine AOL.callO 1912 ((cT)) rfl (by kernel_rfl) rfl (by first | rfl | exact frees_fm (fun _ => rfl) _ | exact a64_free _ | exact by8_free _) (by intro l_ hl_; simp [labs, labss] at hl_ <;> exact hl_) (by decide) (by simp only [St.drop, mapT, mapH, kill, kills, del, St.put, ins, ren, rens, reduceIte, Nat.reduceLT, Nat.reduceEqDiff, Bool.false_eq_true]; exact rfl) ?_
          iterate 1 refine AOL.s1 (h := ?_)
          refine AOL.nil ?_
          repeat refine AW.seq ?_
          refine AW.reg ?_
          iterate 3 refine AOL.s1 (h := ?_)
          refine AOL.nil ?_
          exact ⟨m2, by omega, m + 1, by rw [show _ = _ from hS]; rfl, by omega⟩
    · obtain rfl : m = M := by simp at c_; omega
      clear c_ hS hM
      have dE := dK.drop 16
      have lE : (K.drop 16).length = 16 := by rw [List.length_drop, lK]
      have aE := at_drop K 16
      generalize hE : K.drop 16 = E at *
      repeat refine AW.seq ?_
      refine AW.exit ?_
      repeat (first | refine Kseq.ex ?_ | refine Kloop.ex ?_ | refine Kblock.miss (by decide) ?_)
      refine Kblock.hit ?_
      refine AW.kq [0, 7] (h := ?_)
      repeat refine AW.seq ?_
      refine AW.reg ?_
      iterate 1 refine AOL.s1 (h := ?_)
      refine AOL.nil ?_
      refine AW.kq [0, 7, 13] (h := ?_)
      repeat refine AW.seq ?_
      refine AW.block ?_
      repeat refine AW.seq ?_
      refine AW.loopK [0, 7, 13] (fun n' s => ∃ (k : Nat), s = ⟨163, [(0, .sl 32 (by8 K)), (7, .ref 1912 0 17 1), (13, i k)], [(1912, k64 (addC H E k))]⟩ ∧ k + n' = 16) (16) ?_ ?_
      · exact ⟨0, rfl, rfl⟩
      rintro n' s ⟨k, rfl, hk⟩
      repeat refine AW.seq ?_
      refine AW.reg ?_
      iterate 2 refine AOL.s1 (h := ?_)
      refine AOL.nil ?_
      refine AW.kq [0, 7, 13, 130] (h := ?_)
      repeat refine AW.seq ?_
      refine AW.cond rfl (fun d_ => ?_) (fun d_ => ?_)
      · have d1 : k < 16 := by simp at d_; omega
        obtain ⟨n, rfl⟩ : ∃ n, n' = n + 1 := ⟨n' - 1, by omega⟩
        have k2 : IntKind.i64.wrap ((k : Int) + 1) = ((k + 1 : Nat) : Int) := by rw [wrapI_o (by omega) (by omega)]; omega
        have wk : IntKind.i64.wrap (16 + (k : Int)) = ((16 + k : Nat) : Int) := by rw [wrapI_o (by omega) (by omega)]; omega
        have j0 : (0:Int) ≤ k := by omega
        have j2 : (k:Int) < ((17:Nat):Int) := by omega
        have j3 : (0:Int) ≤ ((16 + k : Nat) : Int) := by omega
        have j4 : ((16 + k : Nat) : Int) < ((32:Nat):Int) := by omega
        have j5 : 16 + k < 32 := by omega
        have j6 : k < 17 := by omega
        have j7 : k ≤ 16 := by omega
        have lA := addC_len H E k
        rw [lH] at lA
        have ac := aE k
        have bA := addC_bnd dH.bnd dE k k
        have bC := dig_at dE k
        have w0 : IntKind.i64.wrap (at_ E k) = at_ E k := wrapI_o (by omega) (by omega)
        have w1 : IntKind.i64.wrap (at_ (addC H E k) k + at_ E k) = at_ (addC H E k) k + at_ E k := wrapI_o (by omega) (by omega)
        replace ac : at_ K (16 + k) = at_ E k := ac.symm
        clear d_ aE
        refine AW.skip ?_
        repeat refine AW.seq ?_
        refine AW.block ?_
        repeat refine AW.seq ?_
        refine AW.drw 13 [] (by kernel_rfl) (h := ?_)
        iterate 13 refine ADL.dm 1 (h := ?_)
        refine ADL.done hmix rfl rfl (hT := ?_)
        iterate 2 refine AOL.s1 (h := ?_)
        refine AOL.nil ?_
        repeat refine AW.seq ?_
        refine AW.reg ?_
        iterate 3 refine AOL.s1 (h := ?_)
        refine AOL.nil ?_
        exact ⟨n, by omega, k + 1, rfl, by omega⟩
      · obtain rfl : k = 16 := by simp at d_; omega
        clear d_ aE hE
        have bA := addC_bnd dH.bnd dE 16
        have lA := addC_len H E 16
        rw [lH] at lA
        generalize hA : addC H E 16 = A at *
        have cT := carried_f (L := A) (n := 16) (fun v hv => by have := bA.mem v hv; omega) (by omega) (by omega)
        unfold sl64 at cT
        rw [lA] at cT
        have dS := cr_dig 16 0 A
        have lS := cr_len 16 0 A
        generalize hSS : cr 16 0 A = S at *
        repeat refine AW.seq ?_
        refine AW.exit ?_
        repeat (first | refine Kseq.ex ?_ | refine Kloop.ex ?_ | refine Kblock.miss (by decide) ?_)
        refine Kblock.hit ?_
        refine AW.fz 1912 rfl (fun h => by cases h) (h := ?_)
        refine AW.kq [7] (h := ?_)
        rw [sub_all (by rw [a64_len]; omega)]
        repeat refine AW.seq ?_
        refine AW.reg ?_
        iterate 1 refine AOL.s1 (h := ?_)
        refine AOL.callD rfl (cT) (by kernel_rfl) rfl rfl (h := ?_)
        iterate 1 refine AOL.s1 (h := ?_)
        refine AOL.nil ?_
        refine AW.kq [14] (h := ?_)
        repeat refine AW.seq ?_
        refine AW.reg ?_
        iterate 2 refine AOL.s1 (h := ?_)
        refine AOL.nil ?_
        refine AW.kq [14, 15] (h := ?_)
        repeat refine AW.seq ?_
        refine AW.reg ?_
        iterate 1 refine AOL.s1 (h := ?_)
        refine AOL.nil ?_
        refine AW.kq [14, 15, 16] (h := ?_)
        repeat refine AW.seq ?_
        refine AW.block ?_
        repeat refine AW.seq ?_
        refine AW.loopK [14, 15, 16] (fun n' s => ∃ (k : Nat), s = ⟨163, [(14, .sl 16 (a64 S)), (15, .ref 3384 0 16 1), (16, i k)], [(3384, ⟨5, false, by8 (S.take k ++ List.replicate (16 - k) 0)⟩)]⟩ ∧ k + n' = 16) (16) ?_ ?_
        · exact ⟨0, rfl, rfl⟩
        rintro n' s ⟨k, rfl, hk⟩
        repeat refine AW.seq ?_
        refine AW.reg ?_
        iterate 2 refine AOL.s1 (h := ?_)
        refine AOL.nil ?_
        refine AW.kq [14, 15, 16, 151] (h := ?_)
        repeat refine AW.seq ?_
        refine AW.cond rfl (fun g_ => ?_) (fun g_ => ?_)
        · have d1 : k < 16 := by simp at g_; omega
          obtain ⟨n, rfl⟩ : ∃ n, n' = n + 1 := ⟨n' - 1, by omega⟩
          have k2 : IntKind.i64.wrap ((k : Int) + 1) = ((k + 1 : Nat) : Int) := by rw [wrapI_o (by omega) (by omega)]; omega
          have j0 : (0:Int) ≤ k := by omega
          have j2 : (k:Int) < ((16:Nat):Int) := by omega
          have j6 : k + 1 ≤ 16 := by omega
          have j7 : k ≤ 15 := by omega
          have w0 := wrap8 (dig_at dS k)
          have fs := fill_set S (n := 16) (j := k) lS d1
          have lO : (S.take k ++ List.replicate (16 - k) (0:Int)).length = 16 := by rw [List.length_append, List.length_take, List.length_replicate, lS]; omega
          have bs : ∀ (V : List Int) (k : Nat) (v : Int), (by8 V).set k (.val (.int .u8 v)) = by8 (V.set k v) := by8_set
          have bl : ∀ V, (by8 V).length = V.length := by8_len
          clear g_
          refine AW.skip ?_
          repeat refine AW.seq ?_
          refine AW.block ?_
          repeat refine AW.seq ?_
          refine AW.reg ?_
          iterate 9 refine AOL.s1 (h := ?_)
          refine AOL.nil ?_
          repeat refine AW.seq ?_
          refine AW.reg ?_
          iterate 3 refine AOL.s1 (h := ?_)
          refine AOL.nil ?_
          exact ⟨n, by omega, k + 1, rfl, by omega⟩
        · obtain rfl : k = 16 := by simp at g_; omega
          rw [Nat.sub_self, List.replicate_zero, List.append_nil, List.take_of_length_le (by omega)]
          repeat refine AW.seq ?_
          refine AW.exit ?_
          repeat (first | refine Kseq.ex ?_ | refine Kloop.ex ?_ | refine Kblock.miss (by decide) ?_)
          refine Kblock.hit ?_
          refine AW.fz 3384 rfl (fun h => by cases h) (h := ?_)
          refine AW.kq [15] (h := ?_)
          rw [sub_all (by rw [by8_len]; omega)]
          repeat refine AW.seq ?_
          refine AW.reg ?_
          iterate 2 refine AOL.s1 (h := ?_)
          refine AOL.nil ?_
          refine AW.kq [4] (h := ?_)
          repeat refine AW.seq ?_
          refine AW.ret ?_
          refine ⟨_, [], rfl, HOk.nil _, ?_⟩
          rw [hH, hA, hSS]
          rfl
end Go.Proofs.Ythajlelljnkdiaa.E.M

