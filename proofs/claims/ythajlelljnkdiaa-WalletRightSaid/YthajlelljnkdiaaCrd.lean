/- obolref06: what is carried; what is below 2^130 - 5: contracts over E. -/
import Derived.Test.YthajlelljnkdiaaDga
import Derived.Test.YthajlelljnkdiaaProg
import Derived.KernelRfl
set_option linter.unusedVariables false
set_option linter.unusedSimpArgs false
set_option maxRecDepth 10000
open Go Go.Proofs.Ythajlelljnkdiaa.E Go.Proofs
namespace Go.Proofs.Ythajlelljnkdiaa.E.M
def cyr (c : Int) (L : List Int) : Nat → Int
  | 0 => c
  | j + 1 => (cyr c L j + at_ L j) / 256
theorem cr_drop (L : List Int) : ∀ (j n : Nat) (c : Int), (cr (n + j) c L).drop j = cr n (cyr c L j) (L.drop j)
  | 0, n, c => by simp [cyr]
  | j + 1, n, c => by
    have h := cr_drop L j (n + 1) c
    rw [show n + 1 + j = n + (j + 1) by omega] at h
    rw [← List.drop_drop, h, cr_step, List.drop_succ_cons, List.drop_zero, List.drop_drop, at_drop]
    rfl
theorem cr_dat (L : List Int) {n j : Nat} (c : Int) (h : j < n) : at_ (cr n c L) j = (cyr c L j + at_ L j) % 256 := by
  have h1 := cr_drop L j (n - j - 1 + 1) c
  rw [show n - j - 1 + 1 + j = n by omega, cr_step, at_drop] at h1
  have h2 := at_drop (cr n c L) j 0
  rw [h1] at h2
  simpa [at_] using h2.symm
theorem at_bd {L : List Int} {b : Int} (h0 : 0 ≤ b) (h : ∀ v ∈ L, 0 ≤ v ∧ v ≤ b) (j : Nat) : 0 ≤ at_ L j ∧ at_ L j ≤ b := by
  rcases Nat.lt_or_ge j L.length with h1 | h1
  · exact h _ (at_mem h1)
  · rw [at_ge h1]; omega
theorem cyr_bd {L : List Int} (h : ∀ v ∈ L, 0 ≤ v ∧ v ≤ 1099511627776) : ∀ j, 0 ≤ cyr 0 L j ∧ cyr 0 L j ≤ 1099511627776
  | 0 => by simp [cyr]
  | j + 1 => by
    have h1 := cyr_bd h j
    have h2 := at_bd (by decide) h j
    simp only [cyr]; omega
theorem a64_free : ∀ V : List Int, frees (a64 V) = true
  | [] => rfl
  | v :: V => a64_free V
theorem by8_free : ∀ V : List Int, frees (by8 V) = true
  | [] => rfl
  | v :: V => by8_free V
theorem tdiv_nn {a m : Int} (h : 0 ≤ a) : Int.tdiv a m = a / m := Int.tdiv_eq_ediv_of_nonneg h
set_option maxHeartbeats 4000000 in
theorem obolref06_carried_c {L : List Int} {n : Nat} (hL : ∀ v ∈ L, 0 ≤ v ∧ v ≤ 1099511627776) (lL : L.length < 1000000) (hn : n ≤ 1000) : Fn Try.prog 62 [sl64 L, i n] [] (Tells (.ref 1000 0 n 1) [(1000, k64 (cr n 0 L))]) := by
  refine Fn.enter Try.func62 Try.ntmps62 rfl (h := ?_)
  have tf := tfk
  have ot_ : (false || true) = true := rfl
  have mk := mkI (n := n) (by omega)
  have al : ∀ V, (a64 V).length = V.length := a64_len
  have sl : ∀ V k v, (a64 V).set k (c64 v) = a64 (V.set k v) := a64_set
  have dl : ∀ (V : List Int) (k : Nat), k < V.length → (a64 V).drop k = c64 (at_ V k) :: a64 (V.drop (k + 1)) := fun V k h => a64_at h
  have ls : ∀ (V : List Int) (k : Nat) (v : Int), (V.set k v).length = V.length := fun V k v => List.length_set
  have lD := cr_len n 0 L
  repeat refine AW.seq ?_
  refine AW.reg ?_
  iterate 1 refine AOL.s1 (h := ?_)
  refine AOL.nil ?_
  refine AW.kq [0, 1] (h := ?_)
  repeat refine AW.seq ?_
  refine AW.reg ?_
  iterate 3 refine AOL.s1 (h := ?_)
  refine AOL.nil ?_
  refine AW.kq [0, 1, 5] (h := ?_)
  repeat refine AW.seq ?_
  refine AW.reg ?_
  iterate 1 refine AOL.s1 (h := ?_)
  refine AOL.nil ?_
  refine AW.kq [0, 1, 5, 6] (h := ?_)
  repeat refine AW.seq ?_
  refine AW.reg ?_
  iterate 1 refine AOL.s1 (h := ?_)
  refine AOL.nil ?_
  refine AW.kq [0, 1, 5, 6, 7] (h := ?_)
  repeat refine AW.seq ?_
  refine AW.block ?_
  repeat refine AW.seq ?_
  refine AW.loopK [0, 1, 5, 6, 7] (fun n' s => ∃ (j : Nat), s = ⟨33, [(0, sl64 L), (1, i n), (5, .ref 1144 0 n 1), (6, i (cyr 0 L j)), (7, i j)], [(1144, k64 ((cr n 0 L).take j ++ List.replicate (n - j) 0))]⟩ ∧ j + n' = n) (n) ?_ ?_
  · exact ⟨0, by simp [cyr], by omega⟩
  rintro n' s ⟨j, rfl, hj⟩
  repeat refine AW.seq ?_
  refine AW.reg ?_
  iterate 3 refine AOL.s1 (h := ?_)
  refine AOL.nil ?_
  refine AW.kq [0, 1, 5, 6, 7, 12] (h := ?_)
  repeat refine AW.seq ?_
  refine AW.cond rfl (fun c_ => ?_) (fun c_ => ?_)
  · have j1 : j < n := by simp at c_; omega
    obtain ⟨m, rfl⟩ : ∃ m, n' = m + 1 := ⟨n' - 1, by omega⟩
    have k2 : IntKind.i64.wrap ((j : Int) + 1) = ((j + 1 : Nat) : Int) := by rw [wrapI_o (by omega) (by omega)]; omega
    have hc := cyr_bd hL j
    have ha := at_bd (by decide) hL j
    have j0 : (0:Int) ≤ j := by omega
    have j2 : (j:Int) < (n:Int) := by omega
    have lO : ((cr n 0 L).take j ++ List.replicate (n - j) (0:Int)).length = n := by rw [List.length_append, List.length_take, List.length_replicate, lD]; omega
    clear c_
    refine AW.skip ?_
    repeat refine AW.seq ?_
    refine AW.block ?_
    repeat refine AW.seq ?_
    refine AW.reg ?_
    iterate 4 refine AOL.s1 (h := ?_)
    refine AOL.nil ?_
    refine AW.kq [0, 1, 5, 6, 7, 18] (h := ?_)
    repeat refine AW.seq ?_
    refine AW.midK [0, 1, 5, 6, 7] (fun t => t = ⟨33, [(0, sl64 L), (1, i n), (5, .ref 1144 0 n 1), (6, i (cyr 0 L j + at_ L j)), (7, i j)], [(1144, k64 ((cr n 0 L).take j ++ List.replicate (n - j) 0))]⟩) ?_ ?_
    · refine AW.cond rfl (fun d_ => ?_) (fun d_ => ?_)
      · have j3 : (j:Int) < L.length := by simpa using d_
        have j4 : j < L.length := by omega
        have w1 : IntKind.i64.wrap (cyr 0 L j + at_ L j) = cyr 0 L j + at_ L j := wrapI_o (by omega) (by omega)
        repeat refine AW.seq ?_
        refine AW.reg ?_
        iterate 7 refine AOL.s1 (h := ?_)
        refine AOL.nil ?_
        rfl
      · have j3 : L.length ≤ j := by simpa using d_
        refine AW.skip ?_
        rw [at_ge j3, Int.add_zero]
        exact rfl
    rintro t rfl
    have hd := cr_dat L 0 j1
    have fs := fill_set (cr n 0 L) (n := n) (j := j) lD j1
    rw [hd] at fs
    have w1 : Int.tmod (cyr 0 L j + at_ L j) 256 = (cyr 0 L j + at_ L j) % 256 := tmod_nn (by omega)
    have w2 : Int.tdiv (cyr 0 L j + at_ L j) 256 = cyr 0 L (j + 1) := tdiv_nn (by omega)
    have hc1 := cyr_bd hL (j + 1)
    have w3 : IntKind.i64.wrap (cyr 0 L (j + 1)) = cyr 0 L (j + 1) := wrapI_o (by omega) (by omega)
    have j5 : j + 1 ≤ n := j1
    clear hd
    repeat refine AW.seq ?_
    refine AW.reg ?_
    iterate 6 refine AOL.s1 (h := ?_)
    refine AOL.nil ?_
    refine AW.kq [0, 1, 5, 6, 7] (h := ?_)
    repeat refine AW.seq ?_
    refine AW.reg ?_
    iterate 3 refine AOL.s1 (h := ?_)
    refine AOL.nil ?_
    repeat refine AW.seq ?_
    refine AW.reg ?_
    iterate 3 refine AOL.s1 (h := ?_)
    refine AOL.nil ?_
    exact ⟨m, by omega, j + 1, rfl, by omega⟩
  · obtain rfl : j = n := by simp at c_; omega
    rw [Nat.sub_self, List.replicate_zero, List.append_nil, List.take_of_length_le (by omega)]
    repeat refine AW.seq ?_
    refine AW.exit ?_
    repeat (first | refine Kseq.ex ?_ | refine Kloop.ex ?_ | refine Kblock.miss (by decide) ?_)
    refine Kblock.hit ?_
    refine AW.kq [5] (h := ?_)
    repeat refine AW.seq ?_
    refine AW.reg ?_
    iterate 2 refine AOL.s1 (h := ?_)
    refine AOL.nil ?_
    refine AW.kq [4] (h := ?_)
    repeat refine AW.seq ?_
    refine AW.ret ?_
    refine ⟨_, [(1144, _)], rfl, (fun p_ hp_ => by simp only [List.mem_singleton] at hp_; subst hp_; first | exact List.mem_cons_self | exact List.mem_cons_of_mem _ List.mem_cons_self | exact List.mem_cons_of_mem _ (List.mem_cons_of_mem _ List.mem_cons_self)), ?_⟩
    refine Tells.one 1144 (by decide) ?_
    first | rfl | exact frees_fm (fun _ => rfl) _ | exact a64_free _ | exact by8_free _
    skip
abbrev P130 : Int := 1361129467683753853853498429727072845819
theorem vl_take {L : List Int} {j : Nat} (h : j < L.length) : vl (L.take (j + 1)) = vl (L.take j) + 256 ^ j * at_ L j := by
  rw [List.take_add_one, List.getElem?_eq_getElem h]
  show vl (L.take j ++ [L[j]]) = _
  rw [vl_app, List.length_take, Nat.min_eq_left (by omega)]
  unfold at_
  rw [List.getD_eq_getElem?_getD, List.getElem?_eq_getElem h]
  simp [vl]
theorem dig_at {L : List Int} (h : dig L) (j : Nat) : 0 ≤ at_ L j ∧ at_ L j < 256 := by
  rcases Nat.lt_or_ge j L.length with h1 | h1
  · exact h _ (at_mem h1)
  · rw [at_ge h1]; omega
theorem dig.take {L : List Int} (h : dig L) (j : Nat) : dig (L.take j) := fun v hv => h v (List.mem_of_mem_take hv)
theorem vl_tlt {L : List Int} (h : dig L) {j : Nat} (hj : j ≤ L.length) : 0 ≤ vl (L.take j) ∧ vl (L.take j) < 256 ^ j := by
  have h1 := vl_lt (h.take j)
  rw [List.length_take, Nat.min_eq_left hj] at h1
  exact ⟨vl_nn (h.take j).nn, h1⟩
theorem p256_0 : (256 : Int) ^ 0 = 1 := rfl
theorem p256_1 : (256 : Int) ^ 1 = 256 := rfl
theorem p256_16 : (256 : Int) ^ 16 = 340282366920938463463374607431768211456 := by decide
theorem p256_17 : (256 : Int) ^ 17 = 87112285931760246646623899502532662132736 := by decide
theorem p256_40 : (256 : Int) ^ 40 = 2135987035920910082395021706169552114602704522356652769947041607822219725780640550022962086936576 := by decide
theorem p256_pos (j : Nat) : 1 ≤ (256 : Int) ^ j := Int.pow_pos (by decide)
theorem p256_ge {j : Nat} (h : 1 ≤ j) : 256 ≤ (256 : Int) ^ j := by
  obtain ⟨k, rfl⟩ : ∃ k, j = k + 1 := ⟨j - 1, by omega⟩
  have := p256_pos k
  rw [Int.pow_succ]; omega
set_option maxHeartbeats 4000000 in
theorem obolref06_less_c {L : List Int} (lL : L.length = 17) (hL : dig L) (h16 : at_ L 16 ≤ 3) : Fn Try.prog 66 [.sl 17 (a64 L)] [] (fun r h_ => r = bo (decide (vl L < P130))) := by
  refine Fn.enter Try.func66 Try.ntmps66 rfl (h := ?_)
  have tf := tfk
  have ot_ : (false || true) = true := rfl
  have t16 : Int.toNat 16 = 16 := rfl
  have t0 : Int.toNat 0 = 0 := rfl
  have z16 : (0:Int) ≤ 16 := by decide
  have y16 : (16:Int) < ((17:Nat):Int) := by decide
  have y0 : (0:Int) < ((17:Nat):Int) := by decide
  have z0 : (0:Int) ≤ 0 := by decide
  have al : ∀ V, (a64 V).length = V.length := a64_len
  have dl : ∀ (V : List Int) (k : Nat), k < V.length → (a64 V).drop k = c64 (at_ V k) :: a64 (V.drop (k + 1)) := fun V k h => a64_at h
  have hz := a64_hd (V := L) (by omega)
  have v0 := vl_take (L := L) (j := 16) (by omega)
  rw [List.take_of_length_le (show L.length ≤ 16 + 1 by omega), p256_16] at v0
  have v1 := vl_tlt hL (j := 16) (by omega)
  rw [p256_16] at v1
  have a0 := dig_at hL 16
  generalize hv : vl L = v at *
  replace hv : id (vl L = v) := hv
  replace v0 : id (v = vl (L.take 16) + 340282366920938463463374607431768211456 * at_ L 16) := v0
  repeat refine AW.seq ?_
  refine AW.reg ?_
  iterate 1 refine AOL.s1 (h := ?_)
  refine AOL.nil ?_
  refine AW.kq [0] (h := ?_)
  repeat refine AW.seq ?_
  refine AW.reg ?_
  iterate 4 refine AOL.s1 (h := ?_)
  refine AOL.nil ?_
  refine AW.kq [0, 7] (h := ?_)
  repeat refine AW.seq ?_
  refine AW.cond rfl (fun c_ => ?_) (fun c_ => ?_)
  · have c1 : at_ L 16 ≠ 3 := by simpa using c_
    have e1 : decide (v < P130) = decide (at_ L 16 < 3) := by
      have v0 : v = vl (L.take 16) + 340282366920938463463374607431768211456 * at_ L 16 := v0
      by_cases h : at_ L 16 < 3
      · rw [decide_eq_true h, decide_eq_true (by show v < 1361129467683753853853498429727072845819; omega)]
      · omega
    rw [e1]
    clear c1
    repeat refine AW.seq ?_
    refine AW.reg ?_
    iterate 5 refine AOL.s1 (h := ?_)
    refine AOL.nil ?_
    refine AW.kq [2] (h := ?_)
    repeat refine AW.seq ?_
    refine AW.ret ?_
    refine ⟨_, [], rfl, HOk.nil _, ?_⟩
    rfl
  have c1 : at_ L 16 = 3 := by simpa using c_
  rw [c1] at v0
  clear c_
  refine AW.skip ?_
  repeat refine AW.seq ?_
  refine AW.reg ?_
  iterate 1 refine AOL.s1 (h := ?_)
  refine AOL.nil ?_
  refine AW.kq [0, 3] (h := ?_)
  repeat refine AW.seq ?_
  refine AW.block ?_
  repeat refine AW.seq ?_
  refine AW.loopK [0, 3] (fun n' s => ∃ (j : Nat), s = ⟨25, [(0, .sl 17 (a64 L)), (3, i j)], []⟩ ∧ id (v = vl (L.take (j + 1)) + 1361129467683753853853498429727072845824 - 256 ^ (j + 1)) ∧ j = n' ∧ j ≤ 15) (15) ?_ ?_
  · exact ⟨15, rfl, by show v = vl (L.take 16) + 1361129467683753853853498429727072845824 - 256 ^ 16; rw [p256_16]; have v0 : v = vl (L.take 16) + 340282366920938463463374607431768211456 * 3 := v0; omega, rfl, by omega⟩
  rintro n' s ⟨j, rfl, hq, rfl, hj⟩
  repeat refine AW.seq ?_
  refine AW.reg ?_
  iterate 2 refine AOL.s1 (h := ?_)
  refine AOL.nil ?_
  refine AW.kq [0, 3, 13] (h := ?_)
  repeat refine AW.seq ?_
  refine AW.cond rfl (fun d_ => ?_) (fun d_ => ?_)
  · have j1 : 1 ≤ j := by simp at d_; omega
    have k2 : IntKind.i64.wrap ((j : Int) - 1) = ((j - 1 : Nat) : Int) := by rw [wrapI_o (by omega) (by omega)]; omega
    have j0 : (0:Int) ≤ j := by omega
    have j2 : (j:Int) < ((17:Nat):Int) := by omega
    have j3 : j ≤ 16 := by omega
    have j4 : j < 17 := by omega
    have hb := vl_take (L := L) (j := j) (by omega)
    have ha := dig_at hL j
    have ht := vl_tlt hL (j := j) (by omega)
    have hp := p256_ge j1
    clear d_
    refine AW.skip ?_
    repeat refine AW.seq ?_
    refine AW.block ?_
    repeat refine AW.seq ?_
    refine AW.reg ?_
    iterate 5 refine AOL.s1 (h := ?_)
    refine AOL.nil ?_
    refine AW.kq [0, 3, 20] (h := ?_)
    repeat refine AW.seq ?_
    refine AW.cond rfl (fun e_ => ?_) (fun e_ => ?_)
    · have e1 : at_ L j ≠ 255 := by simpa using e_
      have e2 : decide (v < P130) = true := by
        have hq : v = vl (L.take (j + 1)) + 1361129467683753853853498429727072845824 - 256 ^ (j + 1) := hq
        rw [Int.pow_succ] at hq
        generalize (256:Int) ^ j = p at *
        have h1 : p * at_ L j ≤ p * 254 := Int.mul_le_mul_of_nonneg_left (by omega) (by omega)
        exact decide_eq_true (by show v < 1361129467683753853853498429727072845819; omega)
      rw [e2]
      repeat refine AW.seq ?_
      refine AW.reg ?_
      iterate 1 refine AOL.s1 (h := ?_)
      refine AOL.nil ?_
      refine AW.kq [2] (h := ?_)
      repeat refine AW.seq ?_
      refine AW.ret ?_
      refine ⟨_, [], rfl, HOk.nil _, ?_⟩
      rfl
    have e1 : at_ L j = 255 := by simpa using e_
    refine AW.skip ?_
    repeat refine AW.seq ?_
    refine AW.reg ?_
    iterate 3 refine AOL.s1 (h := ?_)
    refine AOL.nil ?_
    refine ⟨j - 1, by omega, j - 1, rfl, ?_, rfl, by omega⟩
    have hq : v = vl (L.take (j + 1)) + 1361129467683753853853498429727072845824 - 256 ^ (j + 1) := hq
    show v = _
    rw [Int.pow_succ, hb, e1] at hq
    rw [show j - 1 + 1 = j by omega]
    omega
  · obtain rfl : j = 0 := by simp at d_; omega
    have hb := vl_take (L := L) (j := 0) (by omega)
    have e2 : decide (v < P130) = decide (at_ L 0 < 251) := by
      have hq : v = vl (L.take (0 + 1)) + 1361129467683753853853498429727072845824 - 256 ^ (0 + 1) := hq
      rw [hb, List.take_zero, p256_0, p256_1] at hq
      simp only [vl] at hq
      by_cases h : at_ L 0 < 251
      · rw [decide_eq_true h, decide_eq_true (by show v < 1361129467683753853853498429727072845819; omega)]
      · rw [decide_eq_false h, decide_eq_false (by show ¬ v < 1361129467683753853853498429727072845819; omega)]
    rw [e2]
    repeat refine AW.seq ?_
    refine AW.exit ?_
    repeat (first | refine Kseq.ex ?_ | refine Kloop.ex ?_ | refine Kblock.miss (by decide) ?_)
    refine Kblock.hit ?_
    refine AW.kq [0] (h := ?_)
    repeat refine AW.seq ?_
    refine AW.reg ?_
    iterate 5 refine AOL.s1 (h := ?_)
    refine AOL.nil ?_
    refine AW.kq [2] (h := ?_)
    repeat refine AW.seq ?_
    refine AW.ret ?_
    refine ⟨_, [], rfl, HOk.nil _, ?_⟩
    rfl
end Go.Proofs.Ythajlelljnkdiaa.E.M

