/- obolref05.Sum: a contract over E. -/
import Derived.Test.YthajlelljnkdiaaBlp
import Derived.Test.YthajlelljnkdiaaDga
import Derived.Test.YthajlelljnkdiaaEJ
import Derived.Test.YthajlelljnkdiaaProg
import Derived.KernelRfl
set_option linter.unusedVariables false
set_option linter.unusedSimpArgs false
set_option maxRecDepth 10000
open Go Go.Proofs.Ythajlelljnkdiaa.E Go.Proofs
namespace Go.Proofs.Ythajlelljnkdiaa.E.M
-- @FREE
def padP (L : List Int) : List Int := L ++ List.replicate (8 - L.length) 0
theorem padP_len {L : List Int} (h : L.length ≤ 8) : (padP L).length = 8 := by unfold padP; rw [List.length_append, List.length_replicate]; omega
def blkN (n : Nat) : Nat := if n = 0 then 1 else (n + 63) / 64
def padB (B : List Int) : List Int := B ++ List.replicate (64 * blkN B.length - B.length) 0
theorem blkN_le (n : Nat) : n ≤ 64 * blkN n := by unfold blkN; split <;> omega
theorem padB_len (B : List Int) : (padB B).length = 64 * blkN B.length := by
  unfold padB; rw [List.length_append, List.length_replicate]; have := blkN_le B.length; omega
def sumS (A : List Int) (lb : Nat) (H : List Int) : Nat → List Int
  | 0 => H
  | k + 1 => pressF (sumS A lb H k) ((A.drop (64 * k)).take 64) (IntKind.u64.wrap (if 64 * (k + 1) = A.length then (lb : Int) else ((64 * (k + 1) : Nat) : Int))) (decide (64 * (k + 1) = A.length))
theorem sumS_len (A : List Int) (lb : Nat) {H : List Int} (h : H.length = 8) : ∀ k, (sumS A lb H k).length = 8
  | 0 => h
  | k + 1 => by rw [sumS, pressF_len (sumS_len A lb h k)]
def shN (F : List Int) (n : Nat) (v : Int) : List Int := F.set n (xor32 (at_ F n) v)
theorem shN_len (F : List Int) (n : Nat) (v : Int) : (shN F n v).length = F.length := List.length_set
def sumH0 (P : List Int) : List Int := shN (shN (shN firstL 0 16842784) 6 (at_ (wrdF P) 0)) 7 (at_ (wrdF P) 1)
theorem sumH0_len (P : List Int) : (sumH0 P).length = 8 := by unfold sumH0; rw [shN_len, shN_len, shN_len]; rfl
def sumF (L B : List Int) : List Int := bytF (sumS (padB B) B.length (sumH0 (padP L)) (blkN B.length))
theorem sumF_len (L B : List Int) : (sumF L B).length = 32 := by
  unfold sumF; rw [bytF_len, sumS_len _ _ (sumH0_len _)]
theorem a32_frzs (l : Nat) (bs : List AV) : ∀ V : List Int, frzs l bs (a32 V) = a32 V
  | [] => rfl
  | v :: V => by show frz l bs (c32 v) :: frzs l bs (a32 V) = _; rw [a32_frzs l bs V]; rfl
theorem rep_snoc (n : Nat) : List.replicate n (0:Int) ++ [0] = List.replicate (n + 1) 0 := by rw [List.replicate_succ']
set_option maxHeartbeats 16000000 in
theorem obolref05_Sum_c {x : ByteArray} {L B : List Int} (hx : strNums x = L) (hL : L.length ≤ 8) (hB : B.length < 100000) : Fn Try.prog 49 [.val (.string x), sl8 B] [] (fun r h_ => r = sl8 (sumF L B)) := by
  refine Fn.enter Try.func49 Try.ntmps49 rfl (h := ?_)
  have tf := tfk
  have ot_ : (false || true) = true := rfl
  unfold sumF
  have kl : ∀ l V, kills l (a32 V) = a32 V := a32_kills
  have bx : ∀ st d e V, aBox st d e (.agg (a32 V)) = some (.ptr (lab d) 0, st.new (lab d) ⟨e, true, a32 V⟩) := a32_box
  have ol : ∀ V, (a32 V).all AV.one = true := a32_one
  have tl : ∀ V, V.length = 8 → tk 8 (a32 V) = some (a32 V) := fun V h => a32_tk h
  have al : ∀ V, (a32 V).length = V.length := a32_len
  have sl : ∀ V k v, (a32 V).set k (c32 v) = a32 (V.set k v) := a32_set
  have dl : ∀ (V : List Int) (k : Nat), k < V.length → (a32 V).drop k = c32 (at_ V k) :: a32 (V.drop (k + 1)) := fun V k h => a32_at h
  have ls : ∀ (V : List Int) (k : Nat) (v : Int), (V.set k v).length = V.length := fun V k v => List.length_set
  have b8l := by8_len
  have f7 : ∀ O v, by8 O ++ [.val (.int .u8 v)] = by8 (O ++ [v]) := by8_snoc
  repeat refine AW.seq ?_
  refine AW.reg ?_
  iterate 1 refine AOL.s1 (h := ?_)
  refine AOL.nil ?_
  refine AW.kq [0, 1] (h := ?_)
  repeat refine AW.seq ?_
  refine AW.reg ?_
  iterate 1 refine AOL.s1 (h := ?_)
  refine AOL.strB (e := 5) rfl (by kernel_rfl) (by kernel_rfl) (by kernel_rfl) hx (by omega) (h := ?_)
  iterate 1 refine AOL.s1 (h := ?_)
  refine AOL.nil ?_
  refine AW.kq [1, 5] (h := ?_)
  repeat refine AW.seq ?_
  refine AW.block ?_
  repeat refine AW.seq ?_
  clear hx
  refine AW.loopK [1, 5] (fun n' s => ∃ (j : Nat), s = ⟨96, [(1, sl8 B), (5, .ref 1240 0 (L.length + j) 1)], [(1240, k8 (L ++ List.replicate j 0))]⟩ ∧ j + n' = 8 - L.length) (8 - L.length) ?_ ?_
  · exact ⟨0, by simp, by omega⟩
  rintro n' s ⟨j, rfl, hj⟩
  repeat refine AW.seq ?_
  refine AW.reg ?_
  iterate 3 refine AOL.s1 (h := ?_)
  refine AOL.nil ?_
  refine AW.kq [1, 5, 18] (h := ?_)
  repeat refine AW.seq ?_
  refine AW.cond rfl (fun c_ => ?_) (fun c_ => ?_)
  · have hj1 : L.length + j < 8 := by simp at c_; omega
    obtain ⟨n, rfl⟩ : ∃ m, n' = m + 1 := ⟨n' - 1, by omega⟩
    have g1 := rep_snoc j
    have f1 : (L ++ List.replicate j (0:Int)).length = L.length + j := by rw [List.length_append, List.length_replicate]
    have f5 : L.length + j ≤ 140737488355327 := by omega
    have f6 : L.length + j ≤ 4611686018427387903 := by omega
    have g2 : L ++ List.replicate j (0:Int) ++ [0] = L ++ List.replicate (j + 1) 0 := by rw [List.append_assoc, rep_snoc]
    clear c_ g1
    refine AW.skip ?_
    repeat refine AW.seq ?_
    refine AW.block ?_
    repeat refine AW.seq ?_
    skip
    refine AW.reg ?_
    iterate 4 refine AOL.s1 (h := ?_)
    refine AOL.let 1320 (h := ?_)
    refine AOL.nil ?_
    exact ⟨n, by omega, j + 1, rfl, by omega⟩
  · have hj1 : j = 8 - L.length := by simp at c_; omega
    subst hj1
    have hp : L ++ List.replicate (8 - L.length) 0 = padP L := rfl
    rw [hp]
    have lP := padP_len hL
    have lP2 : L.length + (8 - L.length) = (padP L).length := by omega
    rw [lP2]
    generalize padP L = P at *
    repeat refine AW.seq ?_
    refine AW.exit ?_
    repeat (first | refine Kseq.ex ?_ | refine Kloop.ex ?_ | refine Kblock.miss (by decide) ?_)
    refine Kblock.hit ?_
    refine AW.fz 1240 rfl (fun h => by cases h) (h := ?_)
    refine AW.kq [1, 5] (h := ?_)
    have cP := obolref05_Words_c (L := P) (by omega)
    unfold sl8 at cP
    rw [lP] at cP
    have lW := wrdF_len 2 (L := P) (by omega)
    generalize hM : wrdF P = M at *
    replace lW : M.length ≤ 2 ∧ 2 ≤ M.length := by omega
    have lF : firstL.length = 8 := rfl
    have cF := obolref05_First_c
    generalize hF : firstL = F at *
    have t0 : Int.toNat 0 = 0 := rfl
    have t1 : Int.toNat 1 = 1 := rfl
    have t6 : Int.toNat 6 = 6 := rfl
    have t7 : Int.toNat 7 = 7 := rfl
    have z0 : (0:Int) ≤ 0 := by decide
    have hz : ∀ V : List Int, V.length = 8 → (a32 V).head? = some (c32 (at_ V 0)) := fun V h => by
      have := a32_at (V := V) (k := 0) (by omega)
      rw [List.drop_zero] at this
      rw [this]; rfl
    have hm : (a32 M).head? = some (c32 (at_ M 0)) := by
      have := a32_at (V := M) (k := 0) (by omega)
      rw [List.drop_zero] at this
      rw [this]; rfl
    have m0 : (0:Int) < M.length := by omega
    have m1 : (1:Int) < M.length := by omega
    have mn0 : 0 < M.length := by omega
    have mn1 : 1 < M.length := by omega
    rw [by8_sub, lP]
    clear lP2
    repeat refine AW.seq ?_
    refine AW.reg ?_
    iterate 1 refine AOL.s1 (h := ?_)
    refine AOL.callD rfl (cP) (by kernel_rfl) (by first | rfl | exact a32_free _ | (show (frees (a32 _) && _) = true; rw [a32_free]; rfl)) (by first | rfl | exact a32_free _ | (show (frees (a32 _) && _) = true; rw [a32_free]; rfl)) (h := ?_)
    iterate 1 refine AOL.s1 (h := ?_)
    refine AOL.nil ?_
    refine AW.kq [1, 6] (h := ?_)
    repeat refine AW.seq ?_
    refine AW.reg ?_
    refine AOL.callD rfl (cF) (by kernel_rfl) (by first | rfl | exact a32_free _ | (show (frees (a32 _) && _) = true; rw [a32_free]; rfl)) (by first | rfl | exact a32_free _ | (show (frees (a32 _) && _) = true; rw [a32_free]; rfl)) (h := ?_)
    iterate 2 refine AOL.s1 (h := ?_)
    refine AOL.nil ?_
    refine AW.kq [1, 6, 7] (h := ?_)
    obtain ⟨p_, q_, r_, he⟩ : ∃ p q r, a32 F = p :: q :: r := a32_two lF (by decide)
    rw [he]
    dsimp only
    rw [← he]
    clear he p_ q_ r_
    repeat refine AW.seq ?_
    refine AW.reg ?_
    iterate 5 refine AOL.s1 (h := ?_)
    refine AOL.nil ?_
    refine AW.kq [1, 6, 7] (h := ?_)
    generalize hF1 : F.set 0 _ = F1
    have lF1 : F1.length = 8 := by rw [← hF1, ls, lF]
    repeat refine AW.seq ?_
    refine AW.drw 5 [] (by kernel_rfl) (h := ?_)
    iterate 5 refine ADL.dm 1 (h := ?_)
    refine ADL.done hmix rfl rfl (hT := ?_)
    iterate 3 refine AOL.s1 (h := ?_)
    refine AOL.nil ?_
    refine AW.kq [1, 6, 7] (h := ?_)
    generalize hF2 : F1.set 6 _ = F2
    have lF2 : F2.length = 8 := by rw [← hF2, ls, lF1]
    repeat refine AW.seq ?_
    refine AW.drw 5 [] (by kernel_rfl) (h := ?_)
    iterate 5 refine ADL.dm 1 (h := ?_)
    refine ADL.done hmix rfl rfl (hT := ?_)
    iterate 3 refine AOL.s1 (h := ?_)
    refine AOL.nil ?_
    refine AW.kq [1, 7] (h := ?_)
    generalize hF3 : F2.set 7 _ = F3
    have lF3 : F3.length = 8 := by rw [← hF3, ls, lF2]
    have hH : sumH0 P = F3 := by unfold sumH0; rw [hF, hM, ← hF3, ← hF2, ← hF1]; rfl
    rw [hH]
    clear hH hp hF cF cP hM hj c_ hF1 hF2 hF3 hz hm m0 m1 mn0 mn1 lW lF lF1 lF2
    clear F F1 F2 M
    generalize F3 = H at *
    have lN := blkN_le B.length
    generalize hN : blkN B.length = N at *
    have hN1 : (0 < B.length ∧ 64 * N < B.length + 64) ∨ (N = 1 ∧ B.length = 0) := by rw [← hN]; unfold blkN; split <;> omega
    have NB : N ≤ 100000000 := by omega
    have b1 : B.length ≤ 140737488355328 := by omega
    have b2 : B.length ≤ 4611686018427387904 := by omega
    repeat refine AW.seq ?_
    refine AW.reg ?_
    iterate 4 refine AOL.s1 (h := ?_)
    refine AOL.nil ?_
    refine AW.kq [1, 7, 8] (h := ?_)
    repeat refine AW.seq ?_
    refine AW.block ?_
    repeat refine AW.seq ?_
    refine AW.loopK [1, 7, 8] (fun n' s => ∃ (j : Nat), s = ⟨96, [(1, sl8 B), (7, .ptr 1112 0), (8, .ref 1688 0 (B.length + j) 1)], [(1112, ⟨109, true, a32 H⟩), (1688, k8 (B ++ List.replicate j 0))]⟩ ∧ j + n' = 64 * N - B.length) (64 * N - B.length) ?_ ?_
    · exact ⟨0, by simp, by omega⟩
    rintro n' s ⟨j, rfl, hj⟩
    have fl : (B ++ List.replicate j (0:Int)).length = B.length + j := by rw [List.length_append, List.length_replicate]
    repeat refine AW.seq ?_
    refine AW.reg ?_
    iterate 5 refine AOL.s1 (h := ?_)
    refine AOL.kq [1, 7, 8, 50] (h := ?_)
    refine AOL.or 50 54 (os' := ?_) (x := ?_) (h1 := ?_) (h0 := ?_) (h := ?_)
    rotate_left 2
    iterate 2
      · intro hb_ K' hK; (iterate 4 refine AOL.s1 (h := ?_)); refine AOL.kq [1, 7, 8, 54] (h := ?_); exact hK
    refine AOL.nil ?_
    refine AW.kq [1, 7, 8, 54] (h := ?_)
    repeat refine AW.seq ?_
    refine AW.cond rfl (fun c_ => ?_) (fun c_ => ?_)
    · have hj1 : B.length + j < 64 * N := by rw [tmod_nn (by omega)] at c_; simp only [Bool.or_eq_true, bne_iff_ne, beq_iff_eq, ne_eq] at c_; omega
      obtain ⟨n, rfl⟩ : ∃ m, n' = m + 1 := ⟨n' - 1, by omega⟩
      have f5 : B.length + j ≤ 140737488355327 := by omega
      have f6 : B.length + j ≤ 4611686018427387903 := by omega
      have g2 : B ++ List.replicate j (0:Int) ++ [0] = B ++ List.replicate (j + 1) 0 := by rw [List.append_assoc, rep_snoc]
      clear c_
      refine AW.skip ?_
      repeat refine AW.seq ?_
      refine AW.block ?_
      repeat refine AW.seq ?_
      skip
      refine AW.reg ?_
      iterate 4 refine AOL.s1 (h := ?_)
      refine AOL.let 1896 (h := ?_)
      rw [kl]
      refine AOL.nil ?_
      exact ⟨n, by omega, j + 1, rfl, by omega⟩
    · have hj1 : j = 64 * N - B.length := by rw [tmod_nn (by omega)] at c_; simp only [Bool.or_eq_false_iff, bne_eq_false_iff_eq, beq_eq_false_iff_ne, ne_eq] at c_; omega
      clear c_ fl
      subst hj1
      have hp : B ++ List.replicate (64 * N - B.length) 0 = padB B := by unfold padB; rw [hN]
      rw [hp]
      have lA := padB_len B
      rw [hN] at lA
      have lA2 : B.length + (64 * N - B.length) = (padB B).length := by omega
      rw [lA2]
      generalize padB B = A at *
      repeat refine AW.seq ?_
      refine AW.exit ?_
      repeat (first | refine Kseq.ex ?_ | refine Kloop.ex ?_ | refine Kblock.miss (by decide) ?_)
      refine Kblock.hit ?_
      refine AW.fz 1688 rfl (fun h => by cases h) (h := ?_)
      refine AW.kq [1, 7, 8] (h := ?_)
      rw [by8_sub, lA]
      rw [a32_frzs]
      clear lA2 hj hp hN hN1 lN
      repeat refine AW.seq ?_
      refine AW.reg ?_
      iterate 1 refine AOL.s1 (h := ?_)
      refine AOL.nil ?_
      refine AW.kq [1, 7, 8, 9] (h := ?_)
      repeat refine AW.seq ?_
      refine AW.block ?_
      repeat refine AW.seq ?_
      refine AW.loopK [1, 7, 8, 9] (fun n' s => ∃ (k : Nat), s = ⟨96, [(1, sl8 B), (7, .ptr 1112 0), (8, .sl (64 * N) (by8 A)), (9, i ((64 * k : Nat) : Int))], [(1112, ⟨109, true, a32 (sumS A B.length H k)⟩)]⟩ ∧ k + n' = N) (N) ?_ ?_
      · exact ⟨0, rfl, by omega⟩
      rintro n' s ⟨k, rfl, hk⟩
      repeat refine AW.seq ?_
      refine AW.reg ?_
      iterate 4 refine AOL.s1 (h := ?_)
      refine AOL.nil ?_
      refine AW.kq [1, 7, 8, 9, 61] (h := ?_)
      repeat refine AW.seq ?_
      refine AW.cond rfl (fun d_ => ?_) (fun d_ => ?_)
      · have j1 : k < N := by simp at d_; omega
        obtain ⟨n, rfl⟩ : ∃ m, n' = m + 1 := ⟨n' - 1, by omega⟩
        have e1 : IntKind.i64.wrap (((64 * k : Nat):Int) + 64) = ((64 * (k + 1) : Nat) : Int) := by rw [wrapI_o (by omega) (by omega)]; omega
        have i0 : (0:Int) ≤ ((64 * k : Nat):Int) := by omega
        have i1 : ((64 * k : Nat):Int) ≤ ((64 * (k + 1) : Nat):Int) := by omega
        have i2 : ((64 * (k + 1) : Nat):Int) ≤ ((64 * N : Nat):Int) := by omega
        have i3 : 64 * (k + 1) - 64 * k = 64 := by omega
        have i5 : ∀ H, aSlice Try.prog 57 H (.sl (64 * N) (by8 A)) (some (i ((64 * k : Nat) : Int))) (some (i ((64 * (k + 1) : Nat) : Int))) none = some (.sl 64 (by8 ((A.drop (64 * k)).take 64))) := fun H => by
          rw [aSlice_sl (e := 5) (by kernel_rfl) (by kernel_rfl) (a := 64 * k) (b := 64 * (k + 1)) rfl rfl (by omega) (by omega), i3, by8_drop, by8_take]
        have i6 : ((A.drop (64 * k)).take 64).length = 64 := by rw [List.length_take, List.length_drop]; omega
        have lH := sumS_len A B.length lF3 k
        clear d_
        refine AW.skip ?_
        repeat refine AW.seq ?_
        refine AW.block ?_
        repeat refine AW.seq ?_
        refine AW.reg ?_
        iterate 6 refine AOL.s1 (h := ?_)
        refine AOL.nil ?_
        refine AW.kq [1, 7, 8, 9, 10] (h := ?_)
        generalize hl : (((64 * (k + 1) : Nat):Int) == ((64 * N : Nat):Int)) = l
        repeat refine AW.seq ?_
        refine AW.reg ?_
        iterate 3 refine AOL.s1 (h := ?_)
        refine AOL.nil ?_
        refine AW.kq [1, 7, 8, 9, 10, 11] (h := ?_)
        repeat refine AW.seq ?_
        refine AW.reg ?_
        iterate 1 refine AOL.s1 (h := ?_)
        refine AOL.nil ?_
        refine AW.kq [1, 7, 8, 9, 10, 11, 71] (h := ?_)
        repeat refine AW.seq ?_
        refine AW.midK [1, 7, 8, 9, 10, 11] (fun t => ∃ c, t = ⟨96, [(1, sl8 B), (7, .ptr 1112 0), (8, .sl (64 * N) (by8 A)), (9, i ((64 * k : Nat) : Int)), (10, bo l), (11, i c)], [(1112, ⟨109, true, a32 (sumS A B.length H k)⟩)]⟩ ∧ (if l = true then (B.length:Int) else ((64 * (k + 1) : Nat):Int)) = c) ?_ ?_
        · refine AW.cond rfl (fun e_ => ?_) (fun e_ => ?_)
          · subst e_
            repeat refine AW.seq ?_
            refine AW.reg ?_
            iterate 3 refine AOL.s1 (h := ?_)
            refine AOL.nil ?_
            exact ⟨_, rfl, if_pos rfl⟩
          · subst e_
            refine AW.skip ?_
            exact ⟨_, rfl, if_neg (by decide)⟩
        rintro t ⟨c, rfl, hc⟩
        repeat refine AW.seq ?_
        refine AW.drw 9 [] (by kernel_rfl) (h := ?_)
        iterate 9 refine ADL.dm 1 (h := ?_)
        refine ADL.done hmix rfl rfl (hT := ?_)
        have cR := obolref05_Press_c (H := sumS A B.length H k) (B := (A.drop (64 * k)).take 64) (c := IntKind.u64.wrap c) (l := l) lH i6
        unfold sl8 at cR
        rw [i6] at cR
        generalize hR : pressF (sumS A B.length H k) _ _ _ = R at cR
        have lR : R.length = 8 := by rw [← hR]; exact pressF_len lH
        refine AOL.callD rfl (cR) (by kernel_rfl) (by first | rfl | exact a32_free _ | (show (frees (a32 _) && _) = true; rw [a32_free]; rfl)) (by first | rfl | exact a32_free _ | (show (frees (a32 _) && _) = true; rw [a32_free]; rfl)) (h := ?_)
        iterate 1 refine AOL.s1 (h := ?_)
        refine AOL.nil ?_
        repeat refine AW.seq ?_
        have qR : a32 R ++ List.drop 8 (a32 (sumS A B.length H k)) = a32 R := by rw [List.drop_of_length_le (by rw [a32_len, lH]; decide), List.append_nil]
        obtain ⟨p_, q_, r_, he⟩ : ∃ p q r, a32 R = p :: q :: r := a32_two lR (by decide)
        rw [he]
        dsimp only
        rw [← he, qR]
        clear he p_ q_ r_ qR
        refine AW.reg ?_
        iterate 3 refine AOL.s1 (h := ?_)
        refine AOL.nil ?_
        have hd : decide (64 * (k + 1) = A.length) = l := by
          rw [← hl, lA]
          by_cases h : 64 * (k + 1) = 64 * N
          · rw [decide_eq_true h, h]; simp
          · rw [decide_eq_false h]; symm; rw [beq_eq_false_iff_ne]; omega
        have hs : sumS A B.length H (k + 1) = R := by
          rw [sumS, hd, ← hR, ← hc]
          congr 2
          rw [← hd]
          simp only [decide_eq_true_eq]
        exact ⟨n, by omega, k + 1, by rw [hs]; rfl, by omega⟩
      · obtain rfl : k = N := by simp at d_; omega
        have lH := sumS_len A B.length lF3 k
        generalize sumS A B.length H k = G at *
        repeat refine AW.seq ?_
        refine AW.exit ?_
        repeat (first | refine Kseq.ex ?_ | refine Kloop.ex ?_ | refine Kblock.miss (by decide) ?_)
        refine Kblock.hit ?_
        refine AW.kq [7] (h := ?_)
        repeat refine AW.seq ?_
        refine AW.reg ?_
        iterate 1 refine AOL.s1 (h := ?_)
        refine AOL.nil ?_
        refine AW.kq [7, 12] (h := ?_)
        repeat refine AW.seq ?_
        refine AW.reg ?_
        iterate 1 refine AOL.s1 (h := ?_)
        refine AOL.nil ?_
        refine AW.kq [7, 12, 13] (h := ?_)
        refine AW.born 12 1192 106 1 (.inl rfl) (h := ?_)
        simp only [kl]
        repeat refine AW.seq ?_
        refine AW.block ?_
        repeat refine AW.seq ?_
        refine AW.loopK [7, 12, 13] (fun n' s => ∃ (j : Nat), s = ⟨96, [(7, .ptr 1112 0), (12, .ref 1192 0 j 1), (13, i j)], [(1112, ⟨109, true, a32 G⟩), (1192, k32 (G.take j))]⟩ ∧ j + n' = 8) (8) ?_ ?_
        · exact ⟨0, rfl, rfl⟩
        rintro n' s ⟨j, rfl, hj⟩
        repeat refine AW.seq ?_
        refine AW.reg ?_
        iterate 2 refine AOL.s1 (h := ?_)
        refine AOL.nil ?_
        refine AW.kq [7, 12, 13, 85] (h := ?_)
        repeat refine AW.seq ?_
        refine AW.cond rfl (fun g_ => ?_) (fun g_ => ?_)
        · have j1 : j < 8 := by simp at g_; omega
          obtain ⟨n, rfl⟩ : ∃ m, n' = m + 1 := ⟨n' - 1, by omega⟩
          have k2 : IntKind.i64.wrap ((j : Int) + 1) = ((j + 1 : Nat) : Int) := by rw [wrapI_o (by omega) (by omega)]; omega
          have j0 : (0:Int) ≤ j := by omega
          have j2 : (j:Int) < ((8:Nat):Int) := by omega
          have j6 : j ≤ 7 := by omega
          have j7 : j < G.length := by omega
          have f1 : (G.take j).length = j := by rw [List.length_take]; omega
          have f5 : j ≤ 140737488355327 := by omega
          have f3 : (j + 1) * 4 ≤ 140737488355328 := by omega
          have f6 : j ≤ 4611686018427387903 := by omega
          have f7 : ∀ v, a32 (G.take j) ++ [c32 v] = a32 (G.take j ++ [v]) := a32_snoc _
          have f8 : G.take j ++ [at_ G j] = G.take (j + 1) := by
            unfold at_
            rw [List.take_add_one, List.getD_eq_getElem?_getD, List.getElem?_eq_getElem j7]; rfl
          clear g_
          refine AW.skip ?_
          repeat refine AW.seq ?_
          refine AW.block ?_
          repeat refine AW.seq ?_
          refine AW.reg ?_
          iterate 7 refine AOL.s1 (h := ?_)
          refine AOL.nil ?_
          repeat refine AW.seq ?_
          refine AW.let 2472 (h := ?_)
          refine AW.reg ?_
          iterate 3 refine AOL.s1 (h := ?_)
          refine AOL.nil ?_
          exact ⟨n, by omega, j + 1, by rw [← f8]; rfl, by omega⟩
        · obtain rfl : j = 8 := by simp at g_; omega
          have lZ : G.take 8 = G := List.take_of_length_le (by omega)
          rw [lZ]
          repeat refine AW.seq ?_
          refine AW.exit ?_
          repeat (first | refine Kseq.ex ?_ | refine Kloop.ex ?_ | refine Kblock.miss (by decide) ?_)
          refine Kblock.hit ?_
          refine AW.fz 1192 rfl (fun h => by cases h) (h := ?_)
          refine AW.kq [12] (h := ?_)
          repeat refine AW.seq ?_
          refine AW.reg ?_
          iterate 1 refine AOL.s1 (h := ?_)
          have zz : sub 0 8 (a32 G) = a32 G := sub_all (by rw [a32_len]; omega)
          have cZ := obolref05_Bytes_c (W := G) (by omega)
          unfold sl32 at cZ
          rw [lH] at cZ
          rw [zz]
          clear zz
          refine AOL.callD rfl (cZ) (by kernel_rfl) (by first | rfl | exact a32_free _ | (show (frees (a32 _) && _) = true; rw [a32_free]; rfl)) (by first | rfl | exact a32_free _ | (show (frees (a32 _) && _) = true; rw [a32_free]; rfl)) (h := ?_)
          iterate 1 refine AOL.s1 (h := ?_)
          refine AOL.nil ?_
          refine AW.kq [4] (h := ?_)
          repeat refine AW.seq ?_
          refine AW.ret ?_
          refine ⟨_, [], rfl, HOk.nil _, ?_⟩
          rfl
end Go.Proofs.Ythajlelljnkdiaa.E.M

