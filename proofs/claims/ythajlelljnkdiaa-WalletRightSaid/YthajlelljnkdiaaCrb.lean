/- obolref06.full, length, Stream, Both: contracts over E. -/
import Derived.Test.YthajlelljnkdiaaCrm
import Derived.Test.YthajlelljnkdiaaCip
import Derived.Test.YthajlelljnkdiaaSum
import Derived.Test.YthajlelljnkdiaaProg
import Derived.KernelRfl
set_option linter.unusedVariables false
set_option linter.unusedSimpArgs false
set_option maxRecDepth 10000
open Go Go.Proofs.Ythajlelljnkdiaa.E Go.Proofs
namespace Go.Proofs.Ythajlelljnkdiaa.E.M
def fullN (n : Nat) : Nat := 16 * ((n + 15) / 16)
theorem fullN_le (n : Nat) : n ≤ fullN n ∧ fullN n < n + 16 := by unfold fullN; omega
def fullF (B : List Int) : List Int := B ++ List.replicate (fullN B.length - B.length) 0
theorem fullF_len (B : List Int) : (fullF B).length = fullN B.length := by
  unfold fullF; rw [List.length_append, List.length_replicate]; have := fullN_le B.length; omega
theorem dig_app {L M : List Int} (h : dig L) (k : dig M) : dig (L ++ M) := fun v hv => by
  rcases List.mem_append.1 hv with hv | hv
  · exact h v hv
  · exact k v hv
theorem dig_rep (n : Nat) : dig (List.replicate n 0) := fun v hv => by rw [List.mem_replicate] at hv; omega
theorem fullF_dig {B : List Int} (h : dig B) : dig (fullF B) := dig_app h (dig_rep _)
theorem u8_dig (x : Int) : 0 ≤ IntKind.u8.wrap x ∧ IntKind.u8.wrap x < 256 := by
  simp [IntKind.wrap, IntKind.bits, IntKind.signed]; omega
theorem bytF_dig : ∀ W : List Int, dig (bytF W)
  | [] => fun v hv => by simp [bytF] at hv
  | w :: r => by
    refine dig_app (L := b4 w) ?_ (bytF_dig r)
    intro v hv
    simp only [b4, List.mem_cons, List.not_mem_nil, or_false] at hv
    rcases hv with rfl | rfl | rfl | rfl <;> exact u8_dig _
theorem bloC_dig (K M : List Int) (c : Int) : dig (bloC K M c) := bytF_dig _
theorem sumF_dig (L B : List Int) : dig (sumF L B) := bytF_dig _
def xor8 (a b : Int) : Int := IntKind.u8.wrap (BitVec.ofInt IntKind.u8.bits a ^^^ BitVec.ofInt IntKind.u8.bits b).toNat
def cntS (j : Nat) : Int := IntKind.u32.wrap (1 + ((j / 64 : Nat) : Int))
def strF (K M T : List Int) : List Int := (List.range T.length).map fun j => xor8 (at_ T j) (at_ (bloC K M (cntS j)) (j % 64))
theorem strF_len (K M T : List Int) : (strF K M T).length = T.length := by simp [strF]
theorem strF_dig (K M T : List Int) : dig (strF K M T) := by
  intro v hv
  obtain ⟨k, _, rfl⟩ := List.mem_map.1 hv
  exact u8_dig _
theorem strF_at (K M T : List Int) {j : Nat} (h : j < T.length) : at_ (strF K M T) j = xor8 (at_ T j) (at_ (bloC K M (cntS j)) (j % 64)) := by
  show (strF K M T).getD j 0 = _
  unfold strF
  rw [List.getD_eq_getElem?_getD, List.getElem?_map, List.getElem?_range h]
  rfl
def lenF (n : Nat) : List Int := cr 8 n []
theorem lenF_len (n : Nat) : (lenF n).length = 8 := cr_len _ _ _
theorem lenF_dig (n : Nat) : dig (lenF n) := cr_dig _ _ _
def bothF (K M C : List Int) : List Int := mrkF ((bloC K M 0).take 32) (fullF C ++ lenF 0 ++ lenF C.length)
set_option maxHeartbeats 2000000 in
theorem obolref06_full_c {B : List Int} (lB : B.length < 1000000) : Fn Try.prog 51 [sl8 B] [] (Tells (.ref 1000 0 (fullN B.length) 1) [(1000, k8 (fullF B))]) := by
  refine Fn.enter Try.func51 Try.ntmps51 rfl (h := ?_)
  have tf := tfk
  have ot_ : (false || true) = true := rfl
  have b8l := by8_len
  have f7 : ∀ O v, by8 O ++ [.val (.int .u8 v)] = by8 (O ++ [v]) := by8_snoc
  have b1 : B.length ≤ 140737488355328 := by omega
  have b2 : B.length ≤ 4611686018427387904 := by omega
  have fn := fullN_le B.length
  repeat refine AW.seq ?_
  refine AW.reg ?_
  iterate 1 refine AOL.s1 (h := ?_)
  refine AOL.nil ?_
  refine AW.kq [0] (h := ?_)
  repeat refine AW.seq ?_
  refine AW.reg ?_
  iterate 4 refine AOL.s1 (h := ?_)
  refine AOL.nil ?_
  refine AW.kq [3] (h := ?_)
  repeat refine AW.seq ?_
  refine AW.block ?_
  repeat refine AW.seq ?_
  refine AW.loopK [3] (fun n' s => ∃ (j : Nat), s = ⟨15, [(3, .ref 1064 0 (B.length + j) 1)], [(1064, k8 (B ++ List.replicate j 0))]⟩ ∧ j + n' = fullN B.length - B.length) (fullN B.length - B.length) ?_ ?_
  · exact ⟨0, by simp, by omega⟩
  rintro n' s ⟨j, rfl, hj⟩
  have fl : (B ++ List.replicate j (0:Int)).length = B.length + j := by rw [List.length_append, List.length_replicate]
  repeat refine AW.seq ?_
  refine AW.reg ?_
  iterate 4 refine AOL.s1 (h := ?_)
  refine AOL.nil ?_
  refine AW.kq [3, 10] (h := ?_)
  repeat refine AW.seq ?_
  refine AW.cond rfl (fun c_ => ?_) (fun c_ => ?_)
  · have hj1 : B.length + j < fullN B.length := by rw [tmod_nn (by omega)] at c_; simp only [bne_iff_ne, ne_eq] at c_; unfold fullN at *; omega
    obtain ⟨n, rfl⟩ : ∃ m, n' = m + 1 := ⟨n' - 1, by omega⟩
    have f5 : B.length + j ≤ 140737488355327 := by omega
    have f6 : B.length + j ≤ 4611686018427387903 := by omega
    have g2 : B ++ List.replicate j (0:Int) ++ [0] = B ++ List.replicate (j + 1) 0 := by rw [List.append_assoc, rep_snoc]
    clear c_
    refine AW.skip ?_
    repeat refine AW.seq ?_
    refine AW.block ?_
    repeat refine AW.seq ?_
    skip
    refine AW.reg ?_
    iterate 4 refine AOL.s1 (h := ?_)
    refine AOL.let 1192 (h := ?_)
    refine AOL.nil ?_
    exact ⟨n, by omega, j + 1, rfl, by omega⟩
  · have hj1 : j = fullN B.length - B.length := by rw [tmod_nn (by omega)] at c_; simp only [bne_eq_false_iff_eq] at c_; unfold fullN at *; omega
    clear c_ fl
    subst hj1
    have hp : B ++ List.replicate (fullN B.length - B.length) 0 = fullF B := rfl
    rw [hp]
    have lA := fullF_len B
    have lA2 : B.length + (fullN B.length - B.length) = (fullF B).length := by omega
    rw [lA2]
    repeat refine AW.seq ?_
    refine AW.exit ?_
    repeat (first | refine Kseq.ex ?_ | refine Kloop.ex ?_ | refine Kblock.miss (by decide) ?_)
    refine Kblock.hit ?_
    refine AW.kq [3] (h := ?_)
    repeat refine AW.seq ?_
    refine AW.reg ?_
    iterate 2 refine AOL.s1 (h := ?_)
    refine AOL.nil ?_
    refine AW.kq [2] (h := ?_)
    repeat refine AW.seq ?_
    refine AW.ret ?_
    refine ⟨_, [(1064, _)], rfl, (fun p_ hp_ => by simp only [List.mem_singleton] at hp_; subst hp_; first | exact List.mem_cons_self | exact List.mem_cons_of_mem _ List.mem_cons_self | exact List.mem_cons_of_mem _ (List.mem_cons_of_mem _ List.mem_cons_self)), ?_⟩
    refine Tells.one 1064 (by decide) ?_
    first | rfl | exact frees_fm (fun _ => rfl) _ | exact a64_free _ | exact by8_free _
    skip
set_option maxHeartbeats 1000000 in
theorem obolref06_full_n : Fn Try.prog 51 [.val (.slice none 0 0)] [] (Tells (.ref 1000 0 0 1) [(1000, k8 [])]) := by
  refine Fn.enter Try.func51 Try.ntmps51 rfl (h := ?_)
  have tf := tfk
  have ot_ : (false || true) = true := rfl
  repeat refine AW.seq ?_
  refine AW.reg ?_
  iterate 1 refine AOL.s1 (h := ?_)
  refine AOL.nil ?_
  refine AW.kq [0] (h := ?_)
  repeat refine AW.seq ?_
  refine AW.reg ?_
  iterate 4 refine AOL.s1 (h := ?_)
  refine AOL.nil ?_
  refine AW.kq [3] (h := ?_)
  repeat refine AW.seq ?_
  refine AW.block ?_
  repeat refine AW.seq ?_
  refine AW.loopK [3] (fun n s => s = ⟨15, [(3, .ref 1064 0 0 1)], [(1064, k8 [])]⟩) (0) ?_ ?_
  · exact rfl
  rintro n s rfl
  repeat refine AW.seq ?_
  refine AW.reg ?_
  iterate 4 refine AOL.s1 (h := ?_)
  refine AOL.nil ?_
  refine AW.kq [3, 10] (h := ?_)
  repeat refine AW.seq ?_
  refine AW.cond rfl (fun c_ => ?_) (fun c_ => ?_)
  · simp at c_
  · skip
    repeat refine AW.seq ?_
    refine AW.exit ?_
    repeat (first | refine Kseq.ex ?_ | refine Kloop.ex ?_ | refine Kblock.miss (by decide) ?_)
    refine Kblock.hit ?_
    refine AW.kq [3] (h := ?_)
    repeat refine AW.seq ?_
    refine AW.reg ?_
    iterate 2 refine AOL.s1 (h := ?_)
    refine AOL.nil ?_
    refine AW.kq [2] (h := ?_)
    repeat refine AW.seq ?_
    refine AW.ret ?_
    refine ⟨_, [(1064, _)], rfl, (fun p_ hp_ => by simp only [List.mem_singleton] at hp_; subst hp_; first | exact List.mem_cons_self | exact List.mem_cons_of_mem _ List.mem_cons_self | exact List.mem_cons_of_mem _ (List.mem_cons_of_mem _ List.mem_cons_self)), ?_⟩
    refine Tells.one 1064 (by decide) ?_
    first | rfl | exact frees_fm (fun _ => rfl) _ | exact a64_free _ | exact by8_free _
    skip
set_option maxHeartbeats 2000000 in
theorem obolref06_length_c {n : Nat} (hn : n < 1000000000) : Fn Try.prog 52 [i n] [] (fun r h_ => r = .sl 8 (by8 (lenF n))) := by
  refine Fn.enter Try.func52 Try.ntmps52 rfl (h := ?_)
  have tf := tfk
  have ot_ : (false || true) = true := rfl
  have mkb : ∀ st d, aMake Try.prog st d 57 8 8 = some (.ref (lab d) 0 8 1, st.new (lab d) ⟨5, false, by8 (List.replicate 8 0)⟩) := mkB (n := 8) (by omega)
  have bs : ∀ (V : List Int) (k : Nat) (v : Int), (by8 V).set k (.val (.int .u8 v)) = by8 (V.set k v) := by8_set
  have bl : ∀ V, (by8 V).length = V.length := by8_len
  have lD := lenF_len n
  repeat refine AW.seq ?_
  refine AW.reg ?_
  iterate 1 refine AOL.s1 (h := ?_)
  refine AOL.nil ?_
  refine AW.kq [0] (h := ?_)
  repeat refine AW.seq ?_
  refine AW.reg ?_
  iterate 2 refine AOL.s1 (h := ?_)
  refine AOL.nil ?_
  refine AW.kq [0, 3] (h := ?_)
  repeat refine AW.seq ?_
  refine AW.reg ?_
  iterate 1 refine AOL.s1 (h := ?_)
  refine AOL.nil ?_
  refine AW.kq [0, 3, 4] (h := ?_)
  repeat refine AW.seq ?_
  refine AW.block ?_
  repeat refine AW.seq ?_
  refine AW.loopK [0, 3, 4] (fun n' s => ∃ (j : Nat), s = ⟨19, [(0, i (cyr n [] j)), (3, .ref 1080 0 8 1), (4, i j)], [(1080, ⟨5, false, by8 ((lenF n).take j ++ List.replicate (8 - j) 0)⟩)]⟩ ∧ j + n' = 8 ∧ 0 ≤ cyr n [] j ∧ cyr n [] j < 1000000000) (8) ?_ ?_
  · exact ⟨0, rfl, rfl, by simp [cyr], by simp [cyr]; omega⟩
  rintro n' s ⟨j, rfl, hj, hc0, hc1⟩
  repeat refine AW.seq ?_
  refine AW.reg ?_
  iterate 2 refine AOL.s1 (h := ?_)
  refine AOL.nil ?_
  refine AW.kq [0, 3, 4, 7] (h := ?_)
  repeat refine AW.seq ?_
  refine AW.cond rfl (fun c_ => ?_) (fun c_ => ?_)
  · have j1 : j < 8 := by simp at c_; omega
    obtain ⟨m, rfl⟩ : ∃ m, n' = m + 1 := ⟨n' - 1, by omega⟩
    have k2 : IntKind.i64.wrap ((j : Int) + 1) = ((j + 1 : Nat) : Int) := by rw [wrapI_o (by omega) (by omega)]; omega
    have j0 : (0:Int) ≤ j := by omega
    have j2 : (j:Int) < ((8:Nat):Int) := by omega
    have j6 : j + 1 ≤ 8 := by omega
    have j7 : j ≤ 7 := by omega
    have lO : ((lenF n).take j ++ List.replicate (8 - j) (0:Int)).length = 8 := by rw [List.length_append, List.length_take, List.length_replicate, lD]; omega
    have fs := fill_set (lenF n) (n := 8) (j := j) lD j1
    have hd : at_ (lenF n) j = (cyr n [] j + at_ [] j) % 256 := cr_dat [] n j1
    rw [show at_ [] j = 0 from at_ge (by simp), Int.add_zero] at hd
    rw [hd] at fs
    have hy : cyr n [] (j + 1) = cyr n [] j / 256 := by show (cyr n [] j + at_ [] j) / 256 = _; rw [show at_ [] j = 0 from at_ge (by simp), Int.add_zero]
    have w1 : Int.tmod (cyr n [] j) 256 = cyr n [] j % 256 := tmod_nn (by omega)
    have w2 : Int.tdiv (cyr n [] j) 256 = cyr n [] j / 256 := tdiv_nn (by omega)
    have w3 : IntKind.i64.wrap (cyr n [] j / 256) = cyr n [] j / 256 := wrapI_o (by omega) (by omega)
    have w4 : IntKind.u8.wrap (cyr n [] j % 256) = cyr n [] j % 256 := wrap8 (by omega)
    clear c_ hd
    replace hy : id (_ = _) := hy
    refine AW.skip ?_
    repeat refine AW.seq ?_
    refine AW.block ?_
    repeat refine AW.seq ?_
    refine AW.reg ?_
    iterate 7 refine AOL.s1 (h := ?_)
    refine AOL.nil ?_
    refine AW.kq [0, 3, 4] (h := ?_)
    repeat refine AW.seq ?_
    refine AW.reg ?_
    iterate 3 refine AOL.s1 (h := ?_)
    refine AOL.nil ?_
    repeat refine AW.seq ?_
    refine AW.reg ?_
    iterate 3 refine AOL.s1 (h := ?_)
    refine AOL.nil ?_
    have hy : _ = _ := hy
    exact ⟨m, by omega, j + 1, by rw [hy]; rfl, by omega, by omega, by omega⟩
  · obtain rfl : j = 8 := by simp at c_; omega
    rw [Nat.sub_self, List.replicate_zero, List.append_nil, List.take_of_length_le (by omega)]
    repeat refine AW.seq ?_
    refine AW.exit ?_
    repeat (first | refine Kseq.ex ?_ | refine Kloop.ex ?_ | refine Kblock.miss (by decide) ?_)
    refine Kblock.hit ?_
    refine AW.fz 1080 rfl (fun h => by cases h) (h := ?_)
    refine AW.kq [3] (h := ?_)
    rw [sub_all (by rw [by8_len]; omega)]
    repeat refine AW.seq ?_
    refine AW.reg ?_
    iterate 2 refine AOL.s1 (h := ?_)
    refine AOL.nil ?_
    refine AW.kq [2] (h := ?_)
    repeat refine AW.seq ?_
    refine AW.ret ?_
    refine ⟨_, [], rfl, HOk.nil _, ?_⟩
    rfl
set_option maxHeartbeats 4000000 in
theorem obolref06_Stream_c {K M T : List Int} (lK : K.length = 32) (lM : M.length = 12) (lT : T.length < 1000000) : Fn Try.prog 43 [.sl 32 (by8 K), .sl 12 (by8 M), sl8 T] [] (fun r h_ => r = .sl T.length (by8 (strF K M T))) := by
  refine Fn.enter Try.func43 Try.ntmps43 rfl (h := ?_)
  have tf := tfk
  have ot_ : (false || true) = true := rfl
  have mkb := mkB (n := T.length) (by omega)
  have bs : ∀ (V : List Int) (k : Nat) (v : Int), (by8 V).set k (.val (.int .u8 v)) = by8 (V.set k v) := by8_set
  have bl : ∀ V, (by8 V).length = V.length := by8_len
  have db : ∀ (V : List Int) (k : Nat), k < V.length → (by8 V).drop k = .val (.int .u8 (at_ V k)) :: by8 (V.drop (k + 1)) := fun V k h => by8_atn h
  have lD := strF_len K M T
  have cB := fun c => obolref06_Block_c (K := K) (M := M) (c := c) lK lM
  unfold sl8 at cB
  rw [lK, lM] at cB
  have lC := bloC_len K M
  repeat refine AW.seq ?_
  refine AW.reg ?_
  iterate 1 refine AOL.s1 (h := ?_)
  refine AOL.nil ?_
  refine AW.kq [0, 1, 2] (h := ?_)
  repeat refine AW.seq ?_
  refine AW.reg ?_
  iterate 4 refine AOL.s1 (h := ?_)
  refine AOL.nil ?_
  refine AW.kq [0, 1, 2, 7] (h := ?_)
  repeat refine AW.seq ?_
  refine AW.reg ?_
  iterate 1 refine AOL.s1 (h := ?_)
  refine AOL.nil ?_
  refine AW.kq [0, 1, 2, 7, 8] (h := ?_)
  repeat refine AW.seq ?_
  refine AW.reg ?_
  iterate 1 refine AOL.s1 (h := ?_)
  refine AOL.nil ?_
  refine AW.kq [0, 1, 2, 7, 8, 9] (h := ?_)
  repeat refine AW.seq ?_
  refine AW.block ?_
  repeat refine AW.seq ?_
  refine AW.loopK [0, 1, 2, 7, 8, 9] (fun n' s => ∃ (j : Nat) (v8 : AV), s = ⟨43, [(0, .sl 32 (by8 K)), (1, .sl 12 (by8 M)), (2, sl8 T), (7, .ref 1192 0 T.length 1), (8, v8), (9, i j)], [(1192, ⟨5, false, by8 ((strF K M T).take j ++ List.replicate (T.length - j) 0)⟩)]⟩ ∧ j + n' = T.length ∧ (j % 64 ≠ 0 → v8 = .sl 64 (by8 (bloC K M (cntS j))))) (T.length) ?_ ?_
  · exact ⟨0, _, rfl, by omega, fun h => absurd rfl h⟩
  rintro n' s ⟨j, v8, rfl, hj, h8⟩
  repeat refine AW.seq ?_
  refine AW.reg ?_
  iterate 4 refine AOL.s1 (h := ?_)
  refine AOL.nil ?_
  refine AW.kq [0, 1, 2, 7, 8, 9, 16] (h := ?_)
  repeat refine AW.seq ?_
  refine AW.cond rfl (fun c_ => ?_) (fun c_ => ?_)
  · have j1 : j < T.length := by simp at c_; omega
    obtain ⟨m, rfl⟩ : ∃ m, n' = m + 1 := ⟨n' - 1, by omega⟩
    have k2 : IntKind.i64.wrap ((j : Int) + 1) = ((j + 1 : Nat) : Int) := by rw [wrapI_o (by omega) (by omega)]; omega
    have j0 : (0:Int) ≤ j := by omega
    have j2 : (j:Int) < (T.length:Int) := by omega
    have j6 : j + 1 ≤ T.length := by omega
    have q0 : (0:Int) ≤ ((j % 64 : Nat) : Int) := by omega
    have q1 : ((j % 64 : Nat) : Int) < ((64:Nat):Int) := by omega
    have q2 : j % 64 < 64 := by omega
    have lO : ((strF K M T).take j ++ List.replicate (T.length - j) (0:Int)).length = T.length := by rw [List.length_append, List.length_take, List.length_replicate, lD]; omega
    have fs := fill_set (strF K M T) (n := T.length) (j := j) lD j1
    rw [strF_at K M T j1] at fs
    have w1 : Int.tmod (j:Int) 64 = ((j % 64 : Nat) : Int) := by rw [tmod_nn (by omega)]; omega
    have w2 : Int.tdiv (j:Int) 64 = ((j / 64 : Nat) : Int) := by rw [tdiv_nn (by omega)]; omega
    have w3 : IntKind.i64.wrap ((j / 64 : Nat) : Int) = ((j / 64 : Nat) : Int) := wrapI_o (by omega) (by omega)
    have w4 : IntKind.i64.wrap (1 + ((j / 64 : Nat) : Int)) = 1 + ((j / 64 : Nat) : Int) := wrapI_o (by omega) (by omega)
    have h9 : (j + 1) % 64 ≠ 0 → cntS (j + 1) = cntS j := by
      intro h
      unfold cntS
      rw [show (j + 1) / 64 = j / 64 by omega]
    replace fs : id (_ = _) := fs
    replace h9 : id (_ → _) := h9
    replace h8 : id (_ → _) := h8
    clear c_
    generalize hO : (strF K M T).take j ++ List.replicate (T.length - j) (0:Int) = O at *
    refine AW.skip ?_
    repeat refine AW.seq ?_
    refine AW.block ?_
    repeat refine AW.seq ?_
    refine AW.reg ?_
    iterate 3 refine AOL.s1 (h := ?_)
    refine AOL.nil ?_
    refine AW.kq [0, 1, 2, 7, 8, 9, 21] (h := ?_)
    repeat refine AW.seq ?_
    refine AW.midK [0, 1, 2, 7, 8, 9] (fun t => t = ⟨43, [(0, .sl 32 (by8 K)), (1, .sl 12 (by8 M)), (2, sl8 T), (7, .ref 1192 0 T.length 1), (8, .sl 64 (by8 (bloC K M (cntS j)))), (9, i j)], [(1192, ⟨5, false, by8 O⟩)]⟩) ?_ ?_
    · refine AW.cond rfl (fun d_ => ?_) (fun d_ => ?_)
      · skip
        repeat refine AW.seq ?_
        refine AW.reg ?_
        iterate 6 refine AOL.s1 (h := ?_)
        refine AOL.callD rfl (cB (cntS j)) (by kernel_rfl) rfl rfl (h := ?_)
        iterate 1 refine AOL.s1 (h := ?_)
        refine AOL.nil ?_
        exact rfl
      · have h8 : _ → _ := h8
        have d1 : j % 64 ≠ 0 := by intro h; rw [h] at d_; cases d_
        rw [h8 d1]
        refine AW.skip ?_
        exact rfl
    rintro t rfl
    repeat refine AW.seq ?_
    refine AW.drw 12 [] (by kernel_rfl) (h := ?_)
    iterate 12 refine ADL.dm 1 (h := ?_)
    refine ADL.done hmix rfl rfl (hT := ?_)
    iterate 2 refine AOL.s1 (h := ?_)
    refine AOL.nil ?_
    repeat refine AW.seq ?_
    refine AW.reg ?_
    iterate 3 refine AOL.s1 (h := ?_)
    refine AOL.nil ?_
    have fs : _ = _ := fs
    have h9 : _ → _ := h9
    refine ⟨m, by omega, j + 1, _, ?_, by omega, fun h => by rw [h9 h]⟩
    rw [← fs]
    rfl
  · obtain rfl : j = T.length := by simp at c_; omega
    rw [Nat.sub_self, List.replicate_zero, List.append_nil, List.take_of_length_le (by omega)]
    repeat refine AW.seq ?_
    refine AW.exit ?_
    repeat (first | refine Kseq.ex ?_ | refine Kloop.ex ?_ | refine Kblock.miss (by decide) ?_)
    refine Kblock.hit ?_
    refine AW.fz 1192 rfl (fun h => by cases h) (h := ?_)
    refine AW.kq [7] (h := ?_)
    rw [sub_all (by rw [by8_len]; omega)]
    repeat refine AW.seq ?_
    refine AW.reg ?_
    iterate 2 refine AOL.s1 (h := ?_)
    refine AOL.nil ?_
    refine AW.kq [6] (h := ?_)
    repeat refine AW.seq ?_
    refine AW.ret ?_
    refine ⟨_, [], rfl, HOk.nil _, ?_⟩
    rfl
theorem full_f {B : List Int} (lB : B.length < 1000000) : Fn Try.prog 51 [sl8 B] [] (fun r _ => r = .sl (fullN B.length) (by8 (fullF B))) := by
  have h := (obolref06_full_c lB).frozen (by8_free _)
  have e : frz 1000 (by8 (fullF B)) (.ref 1000 0 (fullN B.length) 1) = .sl (fullN B.length) (by8 (fullF B)) := by
    simp only [frz, if_true]
    rw [sub_all (by rw [by8_len, fullF_len]; omega)]
  rwa [e] at h
set_option maxHeartbeats 4000000 in
theorem obolref06_Both_c {K M T : List Int} (lK : K.length = 32) (lM : M.length = 12) (lT : T.length < 100000) (dT : dig T) : Fn Try.prog 42 [.sl 32 (by8 K), .sl 12 (by8 M), .val (.slice none 0 0), sl8 T] [] (fun r h_ => r = .sl 16 (by8 (bothF K M T))) := by
  refine Fn.enter Try.func42 Try.ntmps42 rfl (h := ?_)
  have tf := tfk
  have ot_ : (false || true) = true := rfl
  unfold bothF
  have cB := obolref06_Block_c (K := K) (M := M) (c := 0) lK lM
  unfold sl8 at cB
  rw [lK, lM, bloC_len] at cB
  have cF := full_f (B := T) (by omega)
  have c0 := obolref06_length_c (n := 0) (by omega)
  have c1 := obolref06_length_c (n := T.length) (by omega)
  have b0 : by8 [] = [] := rfl
  have ba : ∀ V W, by8 V ++ by8 W = by8 (V ++ W) := by8_app
  have bl : ∀ V, (by8 V).length = V.length := by8_len
  have fn := fullN_le T.length
  have lF := fullF_len T
  have l0 := lenF_len
  have la : (fullF T ++ lenF 0).length = fullN T.length + 8 := by rw [List.length_append, lF, l0]
  have lb : (fullF T ++ lenF 0 ++ lenF T.length).length = fullN T.length + 16 := by rw [List.length_append, la, l0]
  have k1 : fullN T.length ≤ 140737488355312 := by omega
  have k2 : fullN T.length ≤ 140737488355328 := by omega
  have k3 : fullN T.length ≤ 4611686018427387888 := by omega
  have k4 : fullN T.length ≤ 4611686018427387904 := by omega
  have k5 : fullN T.length ≤ 140737488355320 := by omega
  have k6 : fullN T.length ≤ 4611686018427387896 := by omega
  have dA : dig (fullF T ++ lenF 0 ++ lenF T.length) := dig_app (dig_app (fullF_dig dT) (lenF_dig _)) (lenF_dig _)
  have bb := bloC_dig K M 0
  have lbl := bloC_len K M 0
  have cM := obolref06_Mark_c (K := (bloC K M 0).take 32) (B := fullF T ++ lenF 0 ++ lenF T.length) (by rw [List.length_take]; omega) (bb.take 32) dA (by omega)
  unfold sl8 at cM
  rw [lb] at cM
  have s17 : ∀ H, aSlice Try.prog 57 H (.sl 64 (by8 (bloC K M 0))) none (some (i 32)) none = some (.sl 32 (by8 ((bloC K M 0).take 32))) := fun H => by
    rw [aSlice_sl (e := 5) (by kernel_rfl) (by kernel_rfl) (a := 0) (b := 32) rfl rfl (by omega) (by omega), List.drop_zero, by8_take]
  clear dA bb dT
  repeat refine AW.seq ?_
  refine AW.reg ?_
  iterate 1 refine AOL.s1 (h := ?_)
  refine AOL.nil ?_
  refine AW.kq [0, 1, 2, 3] (h := ?_)
  repeat refine AW.seq ?_
  refine AW.reg ?_
  iterate 1 refine AOL.s1 (h := ?_)
  refine AOL.callO 3000 ((obolref06_full_n)) rfl (by kernel_rfl) rfl (by first | rfl | exact frees_fm (fun _ => rfl) _ | exact a64_free _ | exact by8_free _) (by intro l_ hl_; simp [labs, labss] at hl_ <;> exact hl_) (by decide) (by simp only [St.drop, mapT, mapH, kill, kills, del, St.put, ins, ren, rens, reduceIte, Nat.reduceLT, Nat.reduceEqDiff, Bool.false_eq_true]; exact rfl) ?_
  iterate 1 refine AOL.s1 (h := ?_)
  refine AOL.callD rfl (cF) (by kernel_rfl) rfl rfl (h := ?_)
  iterate 2 refine AOL.s1 (h := ?_)
  refine AOL.nil ?_
  refine AW.kq [0, 1, 2, 3, 9] (h := ?_)
  repeat refine AW.seq ?_
  refine AW.reg ?_
  iterate 3 refine AOL.s1 (h := ?_)
  refine AOL.callD rfl (c0) (by kernel_rfl) rfl rfl (h := ?_)
  iterate 3 refine AOL.s1 (h := ?_)
  refine AOL.callD rfl (c1) (by kernel_rfl) rfl rfl (h := ?_)
  iterate 2 refine AOL.s1 (h := ?_)
  refine AOL.nil ?_
  refine AW.fz 3000 rfl (fun h => by cases h) (h := ?_)
  refine AW.kq [0, 1, 9] (h := ?_)
  rw [show fullN T.length + 8 + 8 = fullN T.length + 16 by omega, sub_all (by rw [by8_len, lb]; omega)]
  repeat refine AW.seq ?_
  refine AW.reg ?_
  iterate 2 refine AOL.s1 (h := ?_)
  refine AOL.callD rfl (cB) (by kernel_rfl) rfl rfl (h := ?_)
  iterate 2 refine AOL.s1 (h := ?_)
  refine AOL.callD rfl (cM) (by kernel_rfl) rfl rfl (h := ?_)
  iterate 1 refine AOL.s1 (h := ?_)
  refine AOL.nil ?_
  refine AW.kq [8] (h := ?_)
  repeat refine AW.seq ?_
  refine AW.ret ?_
  refine ⟨_, [], rfl, HOk.nil _, ?_⟩
  rfl
end Go.Proofs.Ythajlelljnkdiaa.E.M

