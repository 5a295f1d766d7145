/- obolref06: a block of the stream: contracts over E. -/
import Derived.Test.YthajlelljnkdiaaBlb
import Derived.Test.YthajlelljnkdiaaProg
import Derived.KernelRfl
set_option linter.unusedVariables false
set_option linter.unusedSimpArgs false
set_option maxRecDepth 10000
open Go Go.Proofs.Ythajlelljnkdiaa.E Go.Proofs
namespace Go.Proofs.Ythajlelljnkdiaa.E.M
-- @FREE
def lol32 (x : Int) (n : Int) : Int := IntKind.u32.wrap (BitVec.ofInt IntKind.u32.bits (IntKind.u32.wrap (x * 2 ^ min n.toNat IntKind.u32.bits)) ||| BitVec.ofInt IntKind.u32.bits (x.fdiv (2 ^ min (32 - n).toNat IntKind.u32.bits))).toNat
def qx1 (V : List Int) (a b : Nat) : List Int := V.set a (add32 (at_ V a) (at_ V b))
def qx2 (V : List Int) (d a : Nat) (n : Int) : List Int := V.set d (lol32 (xor32 (at_ V d) (at_ V a)) n)
def quaB (V : List Int) (a b c d : Nat) : List Int := qx2 (qx1 (qx2 (qx1 (qx2 (qx1 (qx2 (qx1 V a b) d a 16) c d) b c 12) a b) d a 8) c d) b c 7
theorem qx1_len (V : List Int) (a b : Nat) : (qx1 V a b).length = V.length := List.length_set
theorem qx2_len (V : List Int) (d a : Nat) (n : Int) : (qx2 V d a n).length = V.length := List.length_set
theorem quaB_len (V : List Int) (a b c d : Nat) : (quaB V a b c d).length = V.length := by
  unfold quaB; rw [qx2_len, qx1_len, qx2_len, qx1_len, qx2_len, qx1_len, qx2_len, qx1_len]
set_option maxHeartbeats 1000000 in
theorem obolref06_roll_c {x n : Int} (h0 : 0 ≤ n) (h1 : n ≤ 32) : Fn Try.prog 67 [c32 x, i n] [] (fun r h_ => r = c32 (lol32 x n)) := by
  refine Fn.enter Try.func67 Try.ntmps67 rfl (h := ?_)
  have tf := tfk
  have ot_ : (false || true) = true := rfl
  have w1 : IntKind.i64.wrap (32 - n) = 32 - n := wrapI_o (by omega) (by omega)
  have g1 : ¬ n < 0 := by omega
  have g2 : ¬ (32 - n) < 0 := by omega
  repeat refine AW.seq ?_
  refine AW.reg ?_
  iterate 1 refine AOL.s1 (h := ?_)
  refine AOL.nil ?_
  refine AW.kq [0, 1] (h := ?_)
  repeat refine AW.seq ?_
  refine AW.drw 7 [] (by kernel_rfl) (h := ?_)
  iterate 7 refine ADL.dm 1 (h := ?_)
  refine ADL.done hmix rfl rfl (hT := ?_)
  iterate 2 refine AOL.s1 (h := ?_)
  refine AOL.nil ?_
  refine AW.kq [4] (h := ?_)
  repeat refine AW.seq ?_
  refine AW.ret ?_
  refine ⟨_, [], rfl, HOk.nil _, ?_⟩
  rfl
set_option maxHeartbeats 4000000 in
theorem obolref06_quarter_c {V : List Int} {a b c d : Nat} (hV : V.length = 16) (ha : a < 16) (hb : b < 16) (hc : c < 16) (hd : d < 16) : Fn Try.prog 63 [.agg (a32 V), i a, i b, i c, i d] [] (fun r h_ => r = .agg (a32 (quaB V a b c d))) := by
  refine Fn.enter Try.func63 Try.ntmps63 rfl (h := ?_)
  have tf := tfk
  have ot_ : (false || true) = true := rfl
  have a0 : (0:Int) ≤ a := by omega
  have b0 : (0:Int) ≤ b := by omega
  have c0 : (0:Int) ≤ c := by omega
  have d0 : (0:Int) ≤ d := by omega
  have a1 : (a:Int) < ((16:Nat):Int) := by omega
  have b1 : (b:Int) < ((16:Nat):Int) := by omega
  have c1 : (c:Int) < ((16:Nat):Int) := by omega
  have d1 : (d:Int) < ((16:Nat):Int) := by omega
  have a2 : a ≤ 15 := by omega
  have b2 : b ≤ 15 := by omega
  have c2 : c ≤ 15 := by omega
  have d2 : d ≤ 15 := by omega
  have kl : ∀ l V, kills l (a32 V) = a32 V := a32_kills
  have bx : ∀ st d e V, aBox st d e (.agg (a32 V)) = some (.ptr (lab d) 0, st.new (lab d) ⟨e, true, a32 V⟩) := a32_box
  have ol : ∀ V, (a32 V).all AV.one = true := a32_one
  have tl : ∀ V, V.length = 16 → tk 16 (a32 V) = some (a32 V) := fun V h => a32_tk h
  have spl : ∀ V cs, V.length = 16 → cs.length = 16 → splice 0 (a32 V) cs = a32 V := fun V cs h h2 => a32_splice (by omega) (by omega)
  have al : ∀ V, (a32 V).length = V.length := a32_len
  have sl : ∀ V k v, (a32 V).set k (c32 v) = a32 (V.set k v) := a32_set
  have dl : ∀ (V : List Int) (k : Nat), k < V.length → (a32 V).drop k = c32 (at_ V k) :: a32 (V.drop (k + 1)) := fun V k h => a32_at h
  have ls : ∀ (V : List Int) (k : Nat) (v : Int), (V.set k v).length = V.length := fun V k v => List.length_set
  repeat refine AW.seq ?_
  refine AW.reg ?_
  iterate 2 refine AOL.s1 (h := ?_)
  refine AOL.nil ?_
  refine AW.kq [1, 2, 3, 4, 5, 10] (h := ?_)
  repeat refine AW.seq ?_
  refine AW.drw 8 [] (by kernel_rfl) (h := ?_)
  iterate 8 refine ADL.dm 1 (h := ?_)
  refine ADL.done hmix rfl rfl (hT := ?_)
  iterate 2 refine AOL.s1 (h := ?_)
  refine AOL.nil ?_
  refine AW.kq [1, 2, 3, 4, 5, 10] (h := ?_)
  generalize hV1 : V.set a _ = V1
  have l1 : V1.length = 16 := by rw [← hV1, ls, hV]
  repeat refine AW.seq ?_
  refine AW.drw 9 [] (by kernel_rfl) (h := ?_)
  iterate 8 refine ADL.dm 1 (h := ?_)
  refine ADL.call rfl (obolref06_roll_c (by decide) (by decide)) (by kernel_rfl) (by first | rfl | exact a32_free _ | (show (frees (a32 _) && _) = true; rw [a32_free]; rfl)) (by first | rfl | exact a32_free _ | (show (frees (a32 _) && _) = true; rw [a32_free]; rfl)) (h := ?_)
  refine ADL.done hmix rfl rfl (hT := ?_)
  iterate 2 refine AOL.s1 (h := ?_)
  refine AOL.nil ?_
  refine AW.kq [1, 2, 3, 4, 5, 10] (h := ?_)
  generalize hV2 : V1.set d _ = V2
  have l2 : V2.length = 16 := by rw [← hV2, ls, l1]
  repeat refine AW.seq ?_
  refine AW.drw 8 [] (by kernel_rfl) (h := ?_)
  iterate 8 refine ADL.dm 1 (h := ?_)
  refine ADL.done hmix rfl rfl (hT := ?_)
  iterate 2 refine AOL.s1 (h := ?_)
  refine AOL.nil ?_
  refine AW.kq [1, 2, 3, 4, 5, 10] (h := ?_)
  generalize hV3 : V2.set c _ = V3
  have l3 : V3.length = 16 := by rw [← hV3, ls, l2]
  repeat refine AW.seq ?_
  refine AW.drw 9 [] (by kernel_rfl) (h := ?_)
  iterate 8 refine ADL.dm 1 (h := ?_)
  refine ADL.call rfl (obolref06_roll_c (by decide) (by decide)) (by kernel_rfl) (by first | rfl | exact a32_free _ | (show (frees (a32 _) && _) = true; rw [a32_free]; rfl)) (by first | rfl | exact a32_free _ | (show (frees (a32 _) && _) = true; rw [a32_free]; rfl)) (h := ?_)
  refine ADL.done hmix rfl rfl (hT := ?_)
  iterate 2 refine AOL.s1 (h := ?_)
  refine AOL.nil ?_
  refine AW.kq [1, 2, 3, 4, 5, 10] (h := ?_)
  generalize hV4 : V3.set b _ = V4
  have l4 : V4.length = 16 := by rw [← hV4, ls, l3]
  repeat refine AW.seq ?_
  refine AW.drw 8 [] (by kernel_rfl) (h := ?_)
  iterate 8 refine ADL.dm 1 (h := ?_)
  refine ADL.done hmix rfl rfl (hT := ?_)
  iterate 2 refine AOL.s1 (h := ?_)
  refine AOL.nil ?_
  refine AW.kq [1, 2, 3, 4, 5, 10] (h := ?_)
  generalize hV5 : V4.set a _ = V5
  have l5 : V5.length = 16 := by rw [← hV5, ls, l4]
  repeat refine AW.seq ?_
  refine AW.drw 9 [] (by kernel_rfl) (h := ?_)
  iterate 8 refine ADL.dm 1 (h := ?_)
  refine ADL.call rfl (obolref06_roll_c (by decide) (by decide)) (by kernel_rfl) (by first | rfl | exact a32_free _ | (show (frees (a32 _) && _) = true; rw [a32_free]; rfl)) (by first | rfl | exact a32_free _ | (show (frees (a32 _) && _) = true; rw [a32_free]; rfl)) (h := ?_)
  refine ADL.done hmix rfl rfl (hT := ?_)
  iterate 2 refine AOL.s1 (h := ?_)
  refine AOL.nil ?_
  refine AW.kq [2, 3, 4, 5, 10] (h := ?_)
  generalize hV6 : V5.set d _ = V6
  have l6 : V6.length = 16 := by rw [← hV6, ls, l5]
  repeat refine AW.seq ?_
  refine AW.drw 8 [] (by kernel_rfl) (h := ?_)
  iterate 8 refine ADL.dm 1 (h := ?_)
  refine ADL.done hmix rfl rfl (hT := ?_)
  iterate 2 refine AOL.s1 (h := ?_)
  refine AOL.nil ?_
  refine AW.kq [2, 3, 5, 10] (h := ?_)
  generalize hV7 : V6.set c _ = V7
  have l7 : V7.length = 16 := by rw [← hV7, ls, l6]
  repeat refine AW.seq ?_
  refine AW.drw 9 [] (by kernel_rfl) (h := ?_)
  iterate 8 refine ADL.dm 1 (h := ?_)
  refine ADL.call rfl (obolref06_roll_c (by decide) (by decide)) (by kernel_rfl) (by first | rfl | exact a32_free _ | (show (frees (a32 _) && _) = true; rw [a32_free]; rfl)) (by first | rfl | exact a32_free _ | (show (frees (a32 _) && _) = true; rw [a32_free]; rfl)) (h := ?_)
  refine ADL.done hmix rfl rfl (hT := ?_)
  iterate 2 refine AOL.s1 (h := ?_)
  refine AOL.nil ?_
  refine AW.kq [5, 10] (h := ?_)
  generalize hV8 : V7.set b _ = V8
  have l8 : V8.length = 16 := by rw [← hV8, ls, l7]
  repeat refine AW.seq ?_
  refine AW.reg ?_
  iterate 2 refine AOL.s1 (h := ?_)
  refine AOL.nil ?_
  refine AW.kq [10] (h := ?_)
  obtain ⟨p_, q_, r_, he⟩ : ∃ p q r, a32 V8 = p :: q :: r := a32_two l8 (by decide)
  rw [he]
  dsimp only
  rw [← he]
  repeat refine AW.seq ?_
  refine AW.ret ?_
  refine ⟨_, [], a32_res (n := 16) rfl rfl rfl rfl l8, HOk.nil _, ?_⟩
  have e8 : quaB V a b c d = V8 := by rw [← hV8, ← hV7, ← hV6, ← hV5, ← hV4, ← hV3, ← hV2, ← hV1]; rfl
  rw [e8]
  rfl
def chaI : List Int := [1634760805, 857760878, 2036477234, 1797285236, 0, 0, 0, 0, 0, 0, 0, 0, 0, 0, 0, 0]
def keyC (K : List Int) : Nat → List Int
  | 0 => chaI
  | j + 1 => (keyC K j).set (4 + j) (at_ K j)
theorem keyC_len (K : List Int) : ∀ j, (keyC K j).length = 16
  | 0 => rfl
  | j + 1 => by rw [keyC, List.length_set, keyC_len K j]
def nonC (V M : List Int) : Nat → List Int
  | 0 => V
  | j + 1 => (nonC V M j).set (13 + j) (at_ M j)
theorem nonC_len (V M : List Int) : ∀ j, (nonC V M j).length = V.length
  | 0 => rfl
  | j + 1 => by rw [nonC, List.length_set, nonC_len V M j]
def rndC (V : List Int) : List Int := quaB (quaB (quaB (quaB (quaB (quaB (quaB (quaB (V) 0 4 8 12) 1 5 9 13) 2 6 10 14) 3 7 11 15) 0 5 10 15) 1 6 11 12) 2 7 8 13) 3 4 9 14
theorem rndC_len (V : List Int) : (rndC V).length = V.length := by unfold rndC; simp only [quaB_len]
def rnsC (V : List Int) : Nat → List Int
  | 0 => V
  | k + 1 => rndC (rnsC V k)
theorem rnsC_len (V : List Int) : ∀ k, (rnsC V k).length = V.length
  | 0 => rfl
  | k + 1 => by rw [rnsC, rndC_len, rnsC_len V k]
def addW (V F : List Int) : Nat → List Int
  | 0 => []
  | j + 1 => addW V F j ++ [add32 (at_ V j) (at_ F j)]
theorem addW_len (V F : List Int) : ∀ j, (addW V F j).length = j
  | 0 => rfl
  | j + 1 => by rw [addW, List.length_append, addW_len V F j]; rfl
def frsC (K M : List Int) (c : Int) : List Int := nonC ((keyC (wrdF K) 8).set 12 c) (wrdF M) 3
def bloC (K M : List Int) (c : Int) : List Int := bytF (addW (rnsC (frsC K M c) 10) (frsC K M c) 16)
theorem bloC_len (K M : List Int) (c : Int) : (bloC K M c).length = 64 := by unfold bloC; rw [bytF_len, addW_len]
set_option maxHeartbeats 16000000 in
theorem obolref06_Block_c {K M : List Int} {c : Int} (hK : K.length = 32) (hM : M.length = 12) : Fn Try.prog 54 [sl8 K, sl8 M, c32 c] [] (fun r h_ => r = sl8 (bloC K M c)) := by
  refine Fn.enter Try.func54 Try.ntmps54 rfl (h := ?_)
  have tf := tfk
  have ot_ : (false || true) = true := rfl
  unfold bloC frsC
  have hk := wrdF_len 8 (L := K) hK
  have hm := wrdF_len 3 (L := M) hM
  have cK := obolref05_Words_c (L := K) (by omega)
  have cM := obolref05_Words_c (L := M) (by omega)
  have kl : ∀ l V, kills l (a32 V) = a32 V := a32_kills
  have bx : ∀ st d e V, aBox st d e (.agg (a32 V)) = some (.ptr (lab d) 0, st.new (lab d) ⟨e, true, a32 V⟩) := a32_box
  have ol : ∀ V, (a32 V).all AV.one = true := a32_one
  have tl : ∀ V, V.length = 16 → tk 16 (a32 V) = some (a32 V) := fun V h => a32_tk h
  have spl : ∀ V cs, V.length = 16 → cs.length = 16 → splice 0 (a32 V) cs = a32 V := fun V cs h h2 => a32_splice (by omega) (by omega)
  have al : ∀ V, (a32 V).length = V.length := a32_len
  have sl : ∀ V k v, (a32 V).set k (c32 v) = a32 (V.set k v) := a32_set
  have dl : ∀ (V : List Int) (k : Nat), k < V.length → (a32 V).drop k = c32 (at_ V k) :: a32 (V.drop (k + 1)) := fun V k h => a32_at h
  have ls : ∀ (V : List Int) (k : Nat) (v : Int), (V.set k v).length = V.length := fun V k v => List.length_set
  have b8l := by8_len
  have ml : ∀ V a b c d, (quaB V a b c d).length = V.length := quaB_len
  have t12 : Int.toNat 12 = 12 := rfl
  generalize wrdF K = A at *
  generalize wrdF M = B at *
  replace hk : A.length ≤ 8 ∧ 8 ≤ A.length := by omega
  replace hm : B.length ≤ 3 ∧ 3 ≤ B.length := by omega
  clear hK hM
  repeat refine AW.seq ?_
  refine AW.reg ?_
  iterate 1 refine AOL.s1 (h := ?_)
  refine AOL.nil ?_
  refine AW.kq [0, 1, 2] (h := ?_)
  repeat refine AW.seq ?_
  refine AW.reg ?_
  iterate 3 refine AOL.s1 (h := ?_)
  refine AOL.nil ?_
  refine AW.kq [0, 1, 2, 7] (h := ?_)
  repeat refine AW.seq ?_
  refine AW.reg ?_
  iterate 1 refine AOL.s1 (h := ?_)
  refine AOL.callD rfl (cK) (by kernel_rfl) (by first | rfl | exact a32_free _ | (show (frees (a32 _) && _) = true; rw [a32_free]; rfl)) (by first | rfl | exact a32_free _ | (show (frees (a32 _) && _) = true; rw [a32_free]; rfl)) (h := ?_)
  iterate 1 refine AOL.s1 (h := ?_)
  refine AOL.nil ?_
  refine AW.kq [1, 2, 7, 8] (h := ?_)
  repeat refine AW.seq ?_
  refine AW.reg ?_
  iterate 1 refine AOL.s1 (h := ?_)
  refine AOL.callD rfl (cM) (by kernel_rfl) (by first | rfl | exact a32_free _ | (show (frees (a32 _) && _) = true; rw [a32_free]; rfl)) (by first | rfl | exact a32_free _ | (show (frees (a32 _) && _) = true; rw [a32_free]; rfl)) (h := ?_)
  iterate 1 refine AOL.s1 (h := ?_)
  refine AOL.nil ?_
  refine AW.kq [2, 7, 8, 9] (h := ?_)
  repeat refine AW.seq ?_
  refine AW.reg ?_
  iterate 1 refine AOL.s1 (h := ?_)
  refine AOL.nil ?_
  refine AW.kq [2, 7, 8, 9, 10] (h := ?_)
  repeat refine AW.seq ?_
  refine AW.block ?_
  repeat refine AW.seq ?_
  clear cK cM
  refine AW.loopK [2, 7, 8, 9, 10] (fun n' s => ∃ (j : Nat), s = ⟨82, [(2, c32 c), (7, .ptr 1112 0), (8, sl32 A), (9, sl32 B), (10, i j)], [(1112, ⟨116, true, a32 (keyC A j)⟩)]⟩ ∧ j + n' = 8) (8) ?_ ?_
  · exact ⟨0, rfl, rfl⟩
  rintro n' s ⟨j, rfl, hj⟩
  repeat refine AW.seq ?_
  refine AW.reg ?_
  iterate 2 refine AOL.s1 (h := ?_)
  refine AOL.nil ?_
  refine AW.kq [2, 7, 8, 9, 10, 22] (h := ?_)
  repeat refine AW.seq ?_
  refine AW.cond rfl (fun c_ => ?_) (fun c_ => ?_)
  · have j1 : j < 8 := by simp at c_; omega
    obtain ⟨n, rfl⟩ : ∃ m, n' = m + 1 := ⟨n' - 1, by omega⟩
    have k2 : IntKind.i64.wrap ((j : Int) + 1) = ((j + 1 : Nat) : Int) := by rw [wrapI_o (by omega) (by omega)]; omega
    have k8 : IntKind.i64.wrap (4 + (j : Int)) = ((4 + j : Nat) : Int) := by rw [wrapI_o (by omega) (by omega)]; omega
    have li := keyC_len A j
    have j0 : (0:Int) ≤ j := by omega
    have j8 : (0:Int) ≤ ((4 + j : Nat):Int) := by omega
    have j2 : (j:Int) < A.length := by omega
    have j5 : j < A.length := by omega
    have j4 : ((4 + j : Nat):Int) < ((16:Nat):Int) := by omega
    have j7 : 4 + j ≤ 15 := by omega
    clear c_
    refine AW.skip ?_
    repeat refine AW.seq ?_
    refine AW.block ?_
    repeat refine AW.seq ?_
    refine AW.reg ?_
    iterate 8 refine AOL.s1 (h := ?_)
    refine AOL.nil ?_
    repeat refine AW.seq ?_
    refine AW.reg ?_
    iterate 3 refine AOL.s1 (h := ?_)
    refine AOL.nil ?_
    exact ⟨n, by omega, j + 1, rfl, by omega⟩
  · obtain rfl : j = 8 := by simp at c_; omega
    have lV := keyC_len A 8
    generalize hV0 : keyC A 8 = V0 at *
    repeat refine AW.seq ?_
    refine AW.exit ?_
    repeat (first | refine Kseq.ex ?_ | refine Kloop.ex ?_ | refine Kblock.miss (by decide) ?_)
    refine Kblock.hit ?_
    refine AW.kq [2, 7, 9] (h := ?_)
    repeat refine AW.seq ?_
    refine AW.reg ?_
    iterate 3 refine AOL.s1 (h := ?_)
    refine AOL.nil ?_
    refine AW.kq [7, 9] (h := ?_)
    generalize hV1 : V0.set 12 c = V1
    have lV1 : V1.length = 16 := by rw [← hV1, ls, lV]
    repeat refine AW.seq ?_
    refine AW.reg ?_
    iterate 1 refine AOL.s1 (h := ?_)
    refine AOL.nil ?_
    refine AW.kq [7, 9, 11] (h := ?_)
    repeat refine AW.seq ?_
    refine AW.block ?_
    repeat refine AW.seq ?_
    refine AW.loopK [7, 9, 11] (fun n' s => ∃ (j : Nat), s = ⟨82, [(7, .ptr 1112 0), (9, sl32 B), (11, i j)], [(1112, ⟨116, true, a32 (nonC V1 B j)⟩)]⟩ ∧ j + n' = 3) (3) ?_ ?_
    · exact ⟨0, rfl, rfl⟩
    rintro n' s ⟨j, rfl, hj⟩
    repeat refine AW.seq ?_
    refine AW.reg ?_
    iterate 2 refine AOL.s1 (h := ?_)
    refine AOL.nil ?_
    refine AW.kq [7, 9, 11, 35] (h := ?_)
    repeat refine AW.seq ?_
    refine AW.cond rfl (fun d_ => ?_) (fun d_ => ?_)
    · have j1 : j < 3 := by simp at d_; omega
      obtain ⟨n, rfl⟩ : ∃ m, n' = m + 1 := ⟨n' - 1, by omega⟩
      have k2 : IntKind.i64.wrap ((j : Int) + 1) = ((j + 1 : Nat) : Int) := by rw [wrapI_o (by omega) (by omega)]; omega
      have k8 : IntKind.i64.wrap (13 + (j : Int)) = ((13 + j : Nat) : Int) := by rw [wrapI_o (by omega) (by omega)]; omega
      have li := nonC_len V1 B j
      rw [lV1] at li
      have j0 : (0:Int) ≤ j := by omega
      have j8 : (0:Int) ≤ ((13 + j : Nat):Int) := by omega
      have j2 : (j:Int) < B.length := by omega
      have j5 : j < B.length := by omega
      have j4 : ((13 + j : Nat):Int) < ((16:Nat):Int) := by omega
      have j7 : 13 + j ≤ 15 := by omega
      clear d_
      refine AW.skip ?_
      repeat refine AW.seq ?_
      refine AW.block ?_
      repeat refine AW.seq ?_
      refine AW.reg ?_
      iterate 8 refine AOL.s1 (h := ?_)
      refine AOL.nil ?_
      repeat refine AW.seq ?_
      refine AW.reg ?_
      iterate 3 refine AOL.s1 (h := ?_)
      refine AOL.nil ?_
      exact ⟨n, by omega, j + 1, rfl, by omega⟩
    · obtain rfl : j = 3 := by simp at d_; omega
      have lF := nonC_len V1 B 3
      rw [lV1] at lF
      generalize hF : nonC V1 B 3 = F at *
      repeat refine AW.seq ?_
      refine AW.exit ?_
      repeat (first | refine Kseq.ex ?_ | refine Kloop.ex ?_ | refine Kblock.miss (by decide) ?_)
      refine Kblock.hit ?_
      refine AW.kq [7] (h := ?_)
      repeat refine AW.seq ?_
      refine AW.reg ?_
      iterate 3 refine AOL.s1 (h := ?_)
      refine AOL.nil ?_
      refine AW.kq [7, 12] (h := ?_)
      obtain ⟨p_, q_, r_, he⟩ : ∃ p q r, a32 F = p :: q :: r := a32_two lF (by decide)
      rw [he]
      dsimp only
      rw [← he]
      clear he p_ q_ r_
      repeat refine AW.seq ?_
      refine AW.reg ?_
      iterate 1 refine AOL.s1 (h := ?_)
      refine AOL.nil ?_
      refine AW.kq [7, 12, 13] (h := ?_)
      repeat refine AW.seq ?_
      refine AW.block ?_
      repeat refine AW.seq ?_
      refine AW.loopK [7, 12, 13] (fun n' s => ∃ (k : Nat), s = ⟨82, [(7, .ptr 1112 0), (12, .ptr 1192 0), (13, i k)], [(1112, ⟨116, true, a32 F⟩), (1192, ⟨116, true, a32 (rnsC F k)⟩)]⟩ ∧ k + n' = 10) (10) ?_ ?_
      · exact ⟨0, rfl, rfl⟩
      rintro n' s ⟨k, rfl, hk⟩
      repeat refine AW.seq ?_
      refine AW.reg ?_
      iterate 2 refine AOL.s1 (h := ?_)
      refine AOL.nil ?_
      refine AW.kq [7, 12, 13, 47] (h := ?_)
      repeat refine AW.seq ?_
      refine AW.cond rfl (fun e_ => ?_) (fun e_ => ?_)
      · have j1 : k < 10 := by simp at e_; omega
        obtain ⟨n, rfl⟩ : ∃ m, n' = m + 1 := ⟨n' - 1, by omega⟩
        have k2 : IntKind.i64.wrap ((k : Int) + 1) = ((k + 1 : Nat) : Int) := by rw [wrapI_o (by omega) (by omega)]; omega
        have lk := rnsC_len F k
        rw [lF] at lk
        have hrn : rnsC F (k + 1) = rndC (rnsC F k) := rfl
        generalize rnsC F k = U0 at *
        clear e_
        refine AW.skip ?_
        repeat refine AW.seq ?_
        refine AW.block ?_
        repeat refine AW.seq ?_
        refine AW.reg ?_
        iterate 1 refine AOL.s1 (h := ?_)
        refine AOL.callD rfl (obolref06_quarter_c (V := U0) (a := 0) (b := 4) (c := 8) (d := 12) lk (by decide) (by decide) (by decide) (by decide)) (by kernel_rfl) (by first | rfl | exact a32_free _ | (show (frees (a32 _) && _) = true; rw [a32_free]; rfl)) (by first | rfl | exact a32_free _ | (show (frees (a32 _) && _) = true; rw [a32_free]; rfl)) (h := ?_)
        iterate 1 refine AOL.s1 (h := ?_)
        refine AOL.nil ?_
        refine AW.kq [7, 12, 13] (h := ?_)
        generalize hU1 : quaB U0 _ _ _ _ = U1
        have lU1 : U1.length = 16 := by rw [← hU1, quaB_len, lk]
        have qU1 : a32 U1 ++ List.drop 16 (a32 U0) = a32 U1 := by rw [List.drop_of_length_le (by rw [a32_len, lk]; decide), List.append_nil]
        obtain ⟨p_, q_, r_, he⟩ : ∃ p q r, a32 U1 = p :: q :: r := a32_two lU1 (by decide)
        rw [he]
        dsimp only
        rw [← he, qU1]
        clear he p_ q_ r_ qU1
        repeat refine AW.seq ?_
        refine AW.reg ?_
        iterate 1 refine AOL.s1 (h := ?_)
        refine AOL.callD rfl (obolref06_quarter_c (V := U1) (a := 1) (b := 5) (c := 9) (d := 13) lU1 (by decide) (by decide) (by decide) (by decide)) (by kernel_rfl) (by first | rfl | exact a32_free _ | (show (frees (a32 _) && _) = true; rw [a32_free]; rfl)) (by first | rfl | exact a32_free _ | (show (frees (a32 _) && _) = true; rw [a32_free]; rfl)) (h := ?_)
        iterate 1 refine AOL.s1 (h := ?_)
        refine AOL.nil ?_
        refine AW.kq [7, 12, 13] (h := ?_)
        generalize hU2 : quaB U1 _ _ _ _ = U2
        have lU2 : U2.length = 16 := by rw [← hU2, quaB_len, lU1]
        have qU2 : a32 U2 ++ List.drop 16 (a32 U1) = a32 U2 := by rw [List.drop_of_length_le (by rw [a32_len, lU1]; decide), List.append_nil]
        obtain ⟨p_, q_, r_, he⟩ : ∃ p q r, a32 U2 = p :: q :: r := a32_two lU2 (by decide)
        rw [he]
        dsimp only
        rw [← he, qU2]
        clear he p_ q_ r_ qU2
        repeat refine AW.seq ?_
        refine AW.reg ?_
        iterate 1 refine AOL.s1 (h := ?_)
        refine AOL.callD rfl (obolref06_quarter_c (V := U2) (a := 2) (b := 6) (c := 10) (d := 14) lU2 (by decide) (by decide) (by decide) (by decide)) (by kernel_rfl) (by first | rfl | exact a32_free _ | (show (frees (a32 _) && _) = true; rw [a32_free]; rfl)) (by first | rfl | exact a32_free _ | (show (frees (a32 _) && _) = true; rw [a32_free]; rfl)) (h := ?_)
        iterate 1 refine AOL.s1 (h := ?_)
        refine AOL.nil ?_
        refine AW.kq [7, 12, 13] (h := ?_)
        generalize hU3 : quaB U2 _ _ _ _ = U3
        have lU3 : U3.length = 16 := by rw [← hU3, quaB_len, lU2]
        have qU3 : a32 U3 ++ List.drop 16 (a32 U2) = a32 U3 := by rw [List.drop_of_length_le (by rw [a32_len, lU2]; decide), List.append_nil]
        obtain ⟨p_, q_, r_, he⟩ : ∃ p q r, a32 U3 = p :: q :: r := a32_two lU3 (by decide)
        rw [he]
        dsimp only
        rw [← he, qU3]
        clear he p_ q_ r_ qU3
        repeat refine AW.seq ?_
        refine AW.reg ?_
        iterate 1 refine AOL.s1 (h := ?_)
        refine AOL.callD rfl (obolref06_quarter_c (V := U3) (a := 3) (b := 7) (c := 11) (d := 15) lU3 (by decide) (by decide) (by decide) (by decide)) (by kernel_rfl) (by first | rfl | exact a32_free _ | (show (frees (a32 _) && _) = true; rw [a32_free]; rfl)) (by first | rfl | exact a32_free _ | (show (frees (a32 _) && _) = true; rw [a32_free]; rfl)) (h := ?_)
        iterate 1 refine AOL.s1 (h := ?_)
        refine AOL.nil ?_
        refine AW.kq [7, 12, 13] (h := ?_)
        generalize hU4 : quaB U3 _ _ _ _ = U4
        have lU4 : U4.length = 16 := by rw [← hU4, quaB_len, lU3]
        have qU4 : a32 U4 ++ List.drop 16 (a32 U3) = a32 U4 := by rw [List.drop_of_length_le (by rw [a32_len, lU3]; decide), List.append_nil]
        obtain ⟨p_, q_, r_, he⟩ : ∃ p q r, a32 U4 = p :: q :: r := a32_two lU4 (by decide)
        rw [he]
        dsimp only
        rw [← he, qU4]
        clear he p_ q_ r_ qU4
        repeat refine AW.seq ?_
        refine AW.reg ?_
        iterate 1 refine AOL.s1 (h := ?_)
        refine AOL.callD rfl (obolref06_quarter_c (V := U4) (a := 0) (b := 5) (c := 10) (d := 15) lU4 (by decide) (by decide) (by decide) (by decide)) (by kernel_rfl) (by first | rfl | exact a32_free _ | (show (frees (a32 _) && _) = true; rw [a32_free]; rfl)) (by first | rfl | exact a32_free _ | (show (frees (a32 _) && _) = true; rw [a32_free]; rfl)) (h := ?_)
        iterate 1 refine AOL.s1 (h := ?_)
        refine AOL.nil ?_
        refine AW.kq [7, 12, 13] (h := ?_)
        generalize hU5 : quaB U4 _ _ _ _ = U5
        have lU5 : U5.length = 16 := by rw [← hU5, quaB_len, lU4]
        have qU5 : a32 U5 ++ List.drop 16 (a32 U4) = a32 U5 := by rw [List.drop_of_length_le (by rw [a32_len, lU4]; decide), List.append_nil]
        obtain ⟨p_, q_, r_, he⟩ : ∃ p q r, a32 U5 = p :: q :: r := a32_two lU5 (by decide)
        rw [he]
        dsimp only
        rw [← he, qU5]
        clear he p_ q_ r_ qU5
        repeat refine AW.seq ?_
        refine AW.reg ?_
        iterate 1 refine AOL.s1 (h := ?_)
        refine AOL.callD rfl (obolref06_quarter_c (V := U5) (a := 1) (b := 6) (c := 11) (d := 12) lU5 (by decide) (by decide) (by decide) (by decide)) (by kernel_rfl) (by first | rfl | exact a32_free _ | (show (frees (a32 _) && _) = true; rw [a32_free]; rfl)) (by first | rfl | exact a32_free _ | (show (frees (a32 _) && _) = true; rw [a32_free]; rfl)) (h := ?_)
        iterate 1 refine AOL.s1 (h := ?_)
        refine AOL.nil ?_
        refine AW.kq [7, 12, 13] (h := ?_)
        generalize hU6 : quaB U5 _ _ _ _ = U6
        have lU6 : U6.length = 16 := by rw [← hU6, quaB_len, lU5]
        have qU6 : a32 U6 ++ List.drop 16 (a32 U5) = a32 U6 := by rw [List.drop_of_length_le (by rw [a32_len, lU5]; decide), List.append_nil]
        obtain ⟨p_, q_, r_, he⟩ : ∃ p q r, a32 U6 = p :: q :: r := a32_two lU6 (by decide)
        rw [he]
        dsimp only
        rw [← he, qU6]
        clear he p_ q_ r_ qU6
        repeat refine AW.seq ?_
        refine AW.reg ?_
        iterate 1 refine AOL.s1 (h := ?_)
        refine AOL.callD rfl (obolref06_quarter_c (V := U6) (a := 2) (b := 7) (c := 8) (d := 13) lU6 (by decide) (by decide) (by decide) (by decide)) (by kernel_rfl) (by first | rfl | exact a32_free _ | (show (frees (a32 _) && _) = true; rw [a32_free]; rfl)) (by first | rfl | exact a32_free _ | (show (frees (a32 _) && _) = true; rw [a32_free]; rfl)) (h := ?_)
        iterate 1 refine AOL.s1 (h := ?_)
        refine AOL.nil ?_
        refine AW.kq [7, 12, 13] (h := ?_)
        generalize hU7 : quaB U6 _ _ _ _ = U7
        have lU7 : U7.length = 16 := by rw [← hU7, quaB_len, lU6]
        have qU7 : a32 U7 ++ List.drop 16 (a32 U6) = a32 U7 := by rw [List.drop_of_length_le (by rw [a32_len, lU6]; decide), List.append_nil]
        obtain ⟨p_, q_, r_, he⟩ : ∃ p q r, a32 U7 = p :: q :: r := a32_two lU7 (by decide)
        rw [he]
        dsimp only
        rw [← he, qU7]
        clear he p_ q_ r_ qU7
        repeat refine AW.seq ?_
        refine AW.reg ?_
        iterate 1 refine AOL.s1 (h := ?_)
        refine AOL.callD rfl (obolref06_quarter_c (V := U7) (a := 3) (b := 4) (c := 9) (d := 14) lU7 (by decide) (by decide) (by decide) (by decide)) (by kernel_rfl) (by first | rfl | exact a32_free _ | (show (frees (a32 _) && _) = true; rw [a32_free]; rfl)) (by first | rfl | exact a32_free _ | (show (frees (a32 _) && _) = true; rw [a32_free]; rfl)) (h := ?_)
        iterate 1 refine AOL.s1 (h := ?_)
        refine AOL.nil ?_
        repeat refine AW.seq ?_
        refine AW.reg ?_
        iterate 3 refine AOL.s1 (h := ?_)
        refine AOL.nil ?_
        generalize hU8 : quaB U7 _ _ _ _ = U8
        have lU8 : U8.length = 16 := by rw [← hU8, quaB_len, lU7]
        have qU8 : a32 U8 ++ List.drop 16 (a32 U7) = a32 U8 := by rw [List.drop_of_length_le (by rw [a32_len, lU7]; decide), List.append_nil]
        obtain ⟨p_, q_, r_, he⟩ : ∃ p q r, a32 U8 = p :: q :: r := a32_two lU8 (by decide)
        rw [he]
        dsimp only
        rw [← he, qU8]
        clear he p_ q_ r_ qU8
        have hU : rnsC F (k + 1) = U8 := by rw [hrn, ← hU8, ← hU7, ← hU6, ← hU5, ← hU4, ← hU3, ← hU2, ← hU1]; rfl
        exact ⟨n, by omega, k + 1, by rw [hU]; rfl, by omega⟩
      · obtain rfl : k = 10 := by simp at e_; omega
        have lW := rnsC_len F 10
        rw [lF] at lW
        generalize hW : rnsC F 10 = W at *
        repeat refine AW.seq ?_
        refine AW.exit ?_
        repeat (first | refine Kseq.ex ?_ | refine Kloop.ex ?_ | refine Kblock.miss (by decide) ?_)
        refine Kblock.hit ?_
        refine AW.kq [7, 12] (h := ?_)
        repeat refine AW.seq ?_
        refine AW.reg ?_
        iterate 1 refine AOL.s1 (h := ?_)
        refine AOL.nil ?_
        refine AW.kq [7, 12, 14] (h := ?_)
        repeat refine AW.seq ?_
        refine AW.reg ?_
        iterate 1 refine AOL.s1 (h := ?_)
        refine AOL.nil ?_
        refine AW.kq [7, 12, 14, 15] (h := ?_)
        refine AW.born 14 1224 106 1 (.inl rfl) (h := ?_)
        simp only [kl]
        repeat refine AW.seq ?_
        refine AW.block ?_
        repeat refine AW.seq ?_
        refine AW.loopK [7, 12, 14, 15] (fun n' s => ∃ (j : Nat), s = ⟨82, [(7, .ptr 1112 0), (12, .ptr 1192 0), (14, .ref 1224 0 j 1), (15, i j)], [(1112, ⟨116, true, a32 F⟩), (1192, ⟨116, true, a32 W⟩), (1224, k32 (addW W F j))]⟩ ∧ j + n' = 16) (16) ?_ ?_
        · exact ⟨0, rfl, rfl⟩
        rintro n' s ⟨j, rfl, hj⟩
        repeat refine AW.seq ?_
        refine AW.reg ?_
        iterate 2 refine AOL.s1 (h := ?_)
        refine AOL.nil ?_
        refine AW.kq [7, 12, 14, 15, 67] (h := ?_)
        repeat refine AW.seq ?_
        refine AW.cond rfl (fun g_ => ?_) (fun g_ => ?_)
        · have j1 : j < 16 := by simp at g_; omega
          obtain ⟨n, rfl⟩ : ∃ m, n' = m + 1 := ⟨n' - 1, by omega⟩
          have k2 : IntKind.i64.wrap ((j : Int) + 1) = ((j + 1 : Nat) : Int) := by rw [wrapI_o (by omega) (by omega)]; omega
          have j0 : (0:Int) ≤ j := by omega
          have j2 : (j:Int) < ((16:Nat):Int) := by omega
          have j6 : j ≤ 15 := by omega
          have f1 := addW_len W F j
          have f2 : j + 1 ≤ 140737488355328 := by omega
          have f3 : (j + 1) * 4 ≤ 140737488355328 := by omega
          have f4 : j + 1 ≤ 4611686018427387904 := by omega
          have f5 : j ≤ 140737488355327 := by omega
          have f6 : j ≤ 4611686018427387903 := by omega
          have f7 : ∀ v, a32 (addW W F j) ++ [c32 v] = a32 (addW W F j ++ [v]) := a32_snoc _
          clear g_
          refine AW.skip ?_
          repeat refine AW.seq ?_
          refine AW.block ?_
          repeat refine AW.seq ?_
          refine AW.drw 9 [2248] (by kernel_rfl) (h := ?_)
          iterate 9 refine ADL.dm 1 (h := ?_)
          refine ADL.done hmix rfl rfl (hT := ?_)
          iterate 2 refine AOL.s1 (h := ?_)
          refine AOL.nil ?_
          repeat refine AW.seq ?_
          refine AW.let 2248 (h := ?_)
          refine AW.reg ?_
          iterate 3 refine AOL.s1 (h := ?_)
          refine AOL.nil ?_
          exact ⟨n, by omega, j + 1, rfl, by omega⟩
        · obtain rfl : j = 16 := by simp at g_; omega
          have lZ := addW_len W F 16
          generalize addW W F 16 = Z at *
          refine AW.fz 1224 rfl (fun h => by cases h) (h := ?_)
          repeat refine AW.seq ?_
          refine AW.exit ?_
          repeat (first | refine Kseq.ex ?_ | refine Kloop.ex ?_ | refine Kblock.miss (by decide) ?_)
          refine Kblock.hit ?_
          refine AW.kq [14] (h := ?_)
          repeat refine AW.seq ?_
          refine AW.reg ?_
          iterate 1 refine AOL.s1 (h := ?_)
          have zz : sub 0 16 (a32 Z) = a32 Z := sub_all (by rw [a32_len]; omega)
          have cZ := obolref05_Bytes_c (W := Z) (by omega)
          unfold sl32 at cZ
          rw [lZ] at cZ
          rw [zz]
          clear zz
          refine AOL.callD rfl (cZ) (by kernel_rfl) (by first | rfl | exact a32_free _ | (show (frees (a32 _) && _) = true; rw [a32_free]; rfl)) (by first | rfl | exact a32_free _ | (show (frees (a32 _) && _) = true; rw [a32_free]; rfl)) (h := ?_)
          iterate 1 refine AOL.s1 (h := ?_)
          refine AOL.nil ?_
          refine AW.kq [6] (h := ?_)
          repeat refine AW.seq ?_
          refine AW.ret ?_
          refine ⟨_, [], rfl, HOk.nil _, ?_⟩
          rfl
end Go.Proofs.Ythajlelljnkdiaa.E.M

