/- obolref05.Press: a contract over E. -/
import Derived.Test.YthajlelljnkdiaaBlb
import Derived.Test.YthajlelljnkdiaaProg
import Derived.KernelRfl
set_option linter.unusedVariables false
set_option linter.unusedSimpArgs false
set_option maxRecDepth 10000
open Go Go.Proofs.Ythajlelljnkdiaa.E Go.Proofs
namespace Go.Proofs.Ythajlelljnkdiaa.E.M
-- @FREE
def iniB (H F : List Int) : Nat → List Int
  | 0 => List.replicate 16 0
  | j + 1 => ((iniB H F j).set j (at_ H j)).set (8 + j) (at_ F j)
theorem iniB_len (H F : List Int) : ∀ j, (iniB H F j).length = 16
  | 0 => rfl
  | j + 1 => by rw [iniB, List.length_set, List.length_set, iniB_len H F j]
def cntB (V : List Int) (c : Int) : List Int := (V.set 12 (xor32 (at_ V 12) (IntKind.u32.wrap c))).set 13 (xor32 (at_ (V.set 12 (xor32 (at_ V 12) (IntKind.u32.wrap c))) 13) (IntKind.u32.wrap (c.fdiv (2 ^ min 32 IntKind.u64.bits))))
def lstB (V : List Int) (l : Bool) : List Int := if l = true then V.set 14 (xor32 (at_ V 14) 4294967295) else V
theorem six16 {S : List Nat} (h : S.length = 16) : ∃ s0_ s1_ s2_ s3_ s4_ s5_ s6_ s7_ s8_ s9_ s10_ s11_ s12_ s13_ s14_ s15_, S = [s0_, s1_, s2_, s3_, s4_, s5_, s6_, s7_, s8_, s9_, s10_, s11_, s12_, s13_, s14_, s15_] := by
  match S, h with
  | [s0_, s1_, s2_, s3_, s4_, s5_, s6_, s7_, s8_, s9_, s10_, s11_, s12_, s13_, s14_, s15_], _ => exact ⟨_, _, _, _, _, _, _, _, _, _, _, _, _, _, _, _, rfl⟩
def rndB (M : List Int) (S : List Nat) (V : List Int) : List Int := mixB (mixB (mixB (mixB (mixB (mixB (mixB (mixB (V) 0 4 8 12 (at_ M (S.getD 0 0)) (at_ M (S.getD 1 0))) 1 5 9 13 (at_ M (S.getD 2 0)) (at_ M (S.getD 3 0))) 2 6 10 14 (at_ M (S.getD 4 0)) (at_ M (S.getD 5 0))) 3 7 11 15 (at_ M (S.getD 6 0)) (at_ M (S.getD 7 0))) 0 5 10 15 (at_ M (S.getD 8 0)) (at_ M (S.getD 9 0))) 1 6 11 12 (at_ M (S.getD 10 0)) (at_ M (S.getD 11 0))) 2 7 8 13 (at_ M (S.getD 12 0)) (at_ M (S.getD 13 0))) 3 4 9 14 (at_ M (S.getD 14 0)) (at_ M (S.getD 15 0))
theorem rndB_len (M : List Int) (S : List Nat) (V : List Int) : (rndB M S V).length = V.length := by unfold rndB; simp only [mixB_len]
def rnsB (M : List Int) : Nat → List Int → List Int
  | 0, V => V
  | k + 1, V => rndB M (rowB k) (rnsB M k V)
theorem rnsB_len (M : List Int) : ∀ (k : Nat) (V : List Int), (rnsB M k V).length = V.length
  | 0, _ => rfl
  | k + 1, V => by rw [rnsB, rndB_len, rnsB_len M k V]
def finB (W : List Int) : Nat → List Int → List Int
  | 0, H => H
  | j + 1, H => (finB W j H).set j (xor32 (xor32 (at_ (finB W j H) j) (at_ W j)) (at_ W (8 + j)))
theorem finB_len (W : List Int) : ∀ (j : Nat) (H : List Int), (finB W j H).length = H.length
  | 0, _ => rfl
  | j + 1, H => by rw [finB, List.length_set, finB_len W j H]
def pressF (H B : List Int) (c : Int) (l : Bool) : List Int := finB (rnsB (wrdF B) 10 (lstB (cntB (iniB H firstL 8) c) l)) 8 H
theorem pressF_len {H B : List Int} {c : Int} {l : Bool} (h : H.length = 8) : (pressF H B c l).length = 8 := by unfold pressF; rw [finB_len, h]
set_option maxHeartbeats 16000000 in
theorem obolref05_Press_c {H B : List Int} {c : Int} {l : Bool} (hH : H.length = 8) (hB : B.length = 64) : Fn Try.prog 58 [.agg (a32 H), sl8 B, u c, bo l] [] (fun r h_ => r = .agg (a32 (pressF H B c l))) := by
  refine Fn.enter Try.func58 Try.ntmps58 rfl (h := ?_)
  have tf := tfk
  have ot_ : (false || true) = true := rfl
  unfold pressF
  have hM := wrdF_len 16 (L := B) hB
  have cW := obolref05_Words_c (L := B) (by omega)
  have cF := obolref05_First_c
  have lF : firstL.length = 8 := rfl
  have bw : ∀ k, k < 10 → ∀ n ∈ rowB k, n < 16 := by decide
  have kl : ∀ l V, kills l (a32 V) = a32 V := a32_kills
  have bx : ∀ st d e V, aBox st d e (.agg (a32 V)) = some (.ptr (lab d) 0, st.new (lab d) ⟨e, true, a32 V⟩) := a32_box
  have ol : ∀ V, (a32 V).all AV.one = true := a32_one
  have tl : ∀ V, V.length = 16 → tk 16 (a32 V) = some (a32 V) := fun V h => a32_tk h
  have tl8 : ∀ V, V.length = 8 → tk 8 (a32 V) = some (a32 V) := fun V h => a32_tk h
  have al : ∀ V, (a32 V).length = V.length := a32_len
  have sl : ∀ V k v, (a32 V).set k (c32 v) = a32 (V.set k v) := a32_set
  have dl : ∀ (V : List Int) (k : Nat), k < V.length → (a32 V).drop k = c32 (at_ V k) :: a32 (V.drop (k + 1)) := fun V k h => a32_at h
  have ls : ∀ (V : List Int) (k : Nat) (v : Int), (V.set k v).length = V.length := fun V k v => List.length_set
  have ml : ∀ V a b c d x y, (mixB V a b c d x y).length = V.length := mixB_len
  have t0 : Int.toNat 0 = 0 := rfl
  have t1 : Int.toNat 1 = 1 := rfl
  have t2 : Int.toNat 2 = 2 := rfl
  have t3 : Int.toNat 3 = 3 := rfl
  have t4 : Int.toNat 4 = 4 := rfl
  have t5 : Int.toNat 5 = 5 := rfl
  have t6 : Int.toNat 6 = 6 := rfl
  have t7 : Int.toNat 7 = 7 := rfl
  have t8 : Int.toNat 8 = 8 := rfl
  have t9 : Int.toNat 9 = 9 := rfl
  have t10 : Int.toNat 10 = 10 := rfl
  have t11 : Int.toNat 11 = 11 := rfl
  have t12 : Int.toNat 12 = 12 := rfl
  have t13 : Int.toNat 13 = 13 := rfl
  have t14 : Int.toNat 14 = 14 := rfl
  have t15 : Int.toNat 15 = 15 := rfl
  have z0 : (0:Int) ≤ 0 := by decide
  have ro : ∀ k, k < 10 → (rowB k).length = 16 := by decide
  generalize wrdF B = M at *
  replace hM : M.length ≤ 16 ∧ 16 ≤ M.length := by omega
  clear hB
  generalize hF : firstL = F at *
  repeat refine AW.seq ?_
  refine AW.reg ?_
  iterate 2 refine AOL.s1 (h := ?_)
  refine AOL.nil ?_
  refine AW.kq [1, 2, 3, 4, 8] (h := ?_)
  repeat refine AW.seq ?_
  refine AW.reg ?_
  iterate 1 refine AOL.s1 (h := ?_)
  refine AOL.callD rfl (cW) (by kernel_rfl) (by first | rfl | exact a32_free _ | (show (frees (a32 _) && _) = true; rw [a32_free]; rfl)) (by first | rfl | exact a32_free _ | (show (frees (a32 _) && _) = true; rw [a32_free]; rfl)) (h := ?_)
  iterate 1 refine AOL.s1 (h := ?_)
  refine AOL.nil ?_
  refine AW.kq [2, 3, 4, 8, 9] (h := ?_)
  repeat refine AW.seq ?_
  refine AW.reg ?_
  refine AOL.callD rfl (cF) (by kernel_rfl) (by first | rfl | exact a32_free _ | (show (frees (a32 _) && _) = true; rw [a32_free]; rfl)) (by first | rfl | exact a32_free _ | (show (frees (a32 _) && _) = true; rw [a32_free]; rfl)) (h := ?_)
  iterate 2 refine AOL.s1 (h := ?_)
  refine AOL.nil ?_
  refine AW.kq [2, 3, 4, 8, 9, 10] (h := ?_)
  obtain ⟨p_, q_, r_, he⟩ : ∃ p q r, a32 F = p :: q :: r := a32_two lF (by decide)
  rw [he]
  dsimp only
  rw [← he]
  clear he p_ q_ r_
  repeat refine AW.seq ?_
  refine AW.reg ?_
  iterate 3 refine AOL.s1 (h := ?_)
  refine AOL.nil ?_
  refine AW.kq [2, 3, 4, 8, 9, 10, 11] (h := ?_)
  repeat refine AW.seq ?_
  refine AW.reg ?_
  iterate 1 refine AOL.s1 (h := ?_)
  refine AOL.nil ?_
  refine AW.kq [2, 3, 4, 8, 9, 10, 11, 12] (h := ?_)
  repeat refine AW.seq ?_
  refine AW.block ?_
  repeat refine AW.seq ?_
  refine AW.loopK [2, 3, 4, 8, 9, 10, 11, 12] (fun n' s => ∃ (j : Nat), s = ⟨190, [(2, u c), (3, bo l), (4, .ptr 1064 0), (8, .ptr 1128 0), (9, sl32 M), (10, .ptr 1160 0), (11, .ptr 1176 0), (12, i j)], [(1064, ⟨109, true, a32 H⟩), (1128, ⟨109, true, a32 (List.replicate 8 0)⟩), (1160, ⟨109, true, a32 F⟩), (1176, ⟨116, true, a32 (iniB H F j)⟩)]⟩ ∧ j + n' = 8) (8) ?_ ?_
  · exact ⟨0, rfl, rfl⟩
  rintro n' s ⟨j, rfl, hj⟩
  repeat refine AW.seq ?_
  refine AW.reg ?_
  iterate 2 refine AOL.s1 (h := ?_)
  refine AOL.nil ?_
  refine AW.kq [2, 3, 4, 8, 9, 10, 11, 12, 21] (h := ?_)
  repeat refine AW.seq ?_
  refine AW.cond rfl (fun c_ => ?_) (fun c_ => ?_)
  · have j1 : j < 8 := by simp at c_; omega
    obtain ⟨n, rfl⟩ : ∃ m, n' = m + 1 := ⟨n' - 1, by omega⟩
    have k2 : IntKind.i64.wrap ((j : Int) + 1) = ((j + 1 : Nat) : Int) := by rw [wrapI_o (by omega) (by omega)]; omega
    have k8 : IntKind.i64.wrap (8 + (j : Int)) = ((8 + j : Nat) : Int) := by rw [wrapI_o (by omega) (by omega)]; omega
    have li := iniB_len H F j
    have j0 : (0:Int) ≤ j := by omega
    have j8 : (0:Int) ≤ ((8 + j : Nat):Int) := by omega
    have j2 : (j:Int) < ((8:Nat):Int) := by omega
    have j3 : (j:Int) < ((16:Nat):Int) := by omega
    have j4 : ((8 + j : Nat):Int) < ((16:Nat):Int) := by omega
    have j5 : j ≤ 7 := by omega
    have j6 : j ≤ 15 := by omega
    have j7 : 8 + j ≤ 15 := by omega
    clear c_
    refine AW.skip ?_
    repeat refine AW.seq ?_
    refine AW.block ?_
    repeat refine AW.seq ?_
    refine AW.reg ?_
    iterate 6 refine AOL.s1 (h := ?_)
    refine AOL.nil ?_
    refine AW.kq [2, 3, 4, 8, 9, 10, 11, 12] (h := ?_)
    repeat refine AW.seq ?_
    refine AW.reg ?_
    iterate 7 refine AOL.s1 (h := ?_)
    refine AOL.nil ?_
    repeat refine AW.seq ?_
    refine AW.reg ?_
    iterate 3 refine AOL.s1 (h := ?_)
    refine AOL.nil ?_
    exact ⟨n, by omega, j + 1, rfl, by omega⟩
  · obtain rfl : j = 8 := by simp at c_; omega
    have lV := iniB_len H F 8
    generalize hV0 : iniB H F 8 = V0 at *
    repeat refine AW.seq ?_
    refine AW.exit ?_
    repeat (first | refine Kseq.ex ?_ | refine Kloop.ex ?_ | refine Kblock.miss (by decide) ?_)
    refine Kblock.hit ?_
    refine AW.kq [2, 3, 4, 8, 9, 11] (h := ?_)
    repeat refine AW.seq ?_
    refine AW.reg ?_
    iterate 7 refine AOL.s1 (h := ?_)
    refine AOL.nil ?_
    refine AW.kq [2, 3, 4, 8, 9, 11] (h := ?_)
    repeat refine AW.seq ?_
    refine AW.reg ?_
    iterate 8 refine AOL.s1 (h := ?_)
    refine AOL.nil ?_
    refine AW.kq [3, 4, 8, 9, 11] (h := ?_)
    generalize hV2 : (V0.set 12 _).set 13 _ = V2
    have lV2 : V2.length = 16 := by rw [← hV2, ls, ls, lV]
    repeat refine AW.seq ?_
    refine AW.reg ?_
    iterate 1 refine AOL.s1 (h := ?_)
    refine AOL.nil ?_
    refine AW.kq [4, 8, 9, 11, 48] (h := ?_)
    repeat refine AW.seq ?_
    refine AW.let 1160 (h := ?_)
    simp only [kl]
    refine AW.midK [4, 8, 9, 11] (fun t => ∃ V3, t = ⟨190, [(4, .ptr 1064 0), (8, .ptr 1128 0), (9, sl32 M), (11, .ptr 1176 0)], [(1064, ⟨109, true, a32 H⟩), (1128, ⟨109, true, a32 (List.replicate 8 0)⟩), (1176, ⟨116, true, a32 V3⟩)]⟩ ∧ lstB V2 l = V3) ?_ ?_
    · refine AW.cond rfl (fun d_ => ?_) (fun d_ => ?_)
      · skip
        repeat refine AW.seq ?_
        refine AW.reg ?_
        iterate 5 refine AOL.s1 (h := ?_)
        refine AOL.nil ?_
        exact ⟨_, rfl, by rw [lstB, if_pos d_]; rfl⟩
      · skip
        refine AW.skip ?_
        exact ⟨_, rfl, by rw [lstB, if_neg (by rw [d_]; decide)]⟩
    rintro t ⟨V3, rfl, hV3⟩
    have lV3 : V3.length = 16 := by rw [← hV3]; unfold lstB; split; rw [ls, lV2]; exact lV2
    repeat refine AW.seq ?_
    refine AW.reg ?_
    iterate 1 refine AOL.s1 (h := ?_)
    refine AOL.nil ?_
    refine AW.kq [4, 8, 9, 11, 13] (h := ?_)
    repeat refine AW.seq ?_
    refine AW.block ?_
    repeat refine AW.seq ?_
    refine AW.loopK [4, 8, 9, 11, 13] (fun n' s => ∃ (k : Nat), s = ⟨190, [(4, .ptr 1064 0), (8, .ptr 1128 0), (9, sl32 M), (11, .ptr 1176 0), (13, i k)], [(1064, ⟨109, true, a32 H⟩), (1128, ⟨109, true, a32 (List.replicate 8 0)⟩), (1176, ⟨116, true, a32 (rnsB M k V3)⟩)]⟩ ∧ k + n' = 10) (10) ?_ ?_
    · exact ⟨0, rfl, rfl⟩
    rintro n' s ⟨k, rfl, hk⟩
    repeat refine AW.seq ?_
    refine AW.reg ?_
    iterate 2 refine AOL.s1 (h := ?_)
    refine AOL.nil ?_
    refine AW.kq [4, 8, 9, 11, 13, 54] (h := ?_)
    repeat refine AW.seq ?_
    refine AW.cond rfl (fun e_ => ?_) (fun e_ => ?_)
    · have j1 : k < 10 := by simp at e_; omega
      obtain ⟨n, rfl⟩ : ∃ m, n' = m + 1 := ⟨n' - 1, by omega⟩
      have k2 : IntKind.i64.wrap ((k : Int) + 1) = ((k + 1 : Nat) : Int) := by rw [wrapI_o (by omega) (by omega)]; omega
      have lk := rnsB_len M k V3
      rw [lV3] at lk
      have hrn : rnsB M (k + 1) V3 = rndB M (rowB k) (rnsB M k V3) := rfl
      have cR := obolref05_Row_c j1
      have hb := bw k j1
      obtain ⟨s0_, s1_, s2_, s3_, s4_, s5_, s6_, s7_, s8_, s9_, s10_, s11_, s12_, s13_, s14_, s15_, hs⟩ := six16 (ro k j1)
      rw [hs] at cR hb hrn
      have b0 : s0_ < 16 := hb s0_ (by simp)
      have bb0 : (s0_:Int) < M.length := by omega
      have bn0 : s0_ < M.length := by omega
      have bz0 : (0:Int) ≤ s0_ := by omega
      have b1 : s1_ < 16 := hb s1_ (by simp)
      have bb1 : (s1_:Int) < M.length := by omega
      have bn1 : s1_ < M.length := by omega
      have bz1 : (0:Int) ≤ s1_ := by omega
      have b2 : s2_ < 16 := hb s2_ (by simp)
      have bb2 : (s2_:Int) < M.length := by omega
      have bn2 : s2_ < M.length := by omega
      have bz2 : (0:Int) ≤ s2_ := by omega
      have b3 : s3_ < 16 := hb s3_ (by simp)
      have bb3 : (s3_:Int) < M.length := by omega
      have bn3 : s3_ < M.length := by omega
      have bz3 : (0:Int) ≤ s3_ := by omega
      have b4 : s4_ < 16 := hb s4_ (by simp)
      have bb4 : (s4_:Int) < M.length := by omega
      have bn4 : s4_ < M.length := by omega
      have bz4 : (0:Int) ≤ s4_ := by omega
      have b5 : s5_ < 16 := hb s5_ (by simp)
      have bb5 : (s5_:Int) < M.length := by omega
      have bn5 : s5_ < M.length := by omega
      have bz5 : (0:Int) ≤ s5_ := by omega
      have b6 : s6_ < 16 := hb s6_ (by simp)
      have bb6 : (s6_:Int) < M.length := by omega
      have bn6 : s6_ < M.length := by omega
      have bz6 : (0:Int) ≤ s6_ := by omega
      have b7 : s7_ < 16 := hb s7_ (by simp)
      have bb7 : (s7_:Int) < M.length := by omega
      have bn7 : s7_ < M.length := by omega
      have bz7 : (0:Int) ≤ s7_ := by omega
      have b8 : s8_ < 16 := hb s8_ (by simp)
      have bb8 : (s8_:Int) < M.length := by omega
      have bn8 : s8_ < M.length := by omega
      have bz8 : (0:Int) ≤ s8_ := by omega
      have b9 : s9_ < 16 := hb s9_ (by simp)
      have bb9 : (s9_:Int) < M.length := by omega
      have bn9 : s9_ < M.length := by omega
      have bz9 : (0:Int) ≤ s9_ := by omega
      have b10 : s10_ < 16 := hb s10_ (by simp)
      have bb10 : (s10_:Int) < M.length := by omega
      have bn10 : s10_ < M.length := by omega
      have bz10 : (0:Int) ≤ s10_ := by omega
      have b11 : s11_ < 16 := hb s11_ (by simp)
      have bb11 : (s11_:Int) < M.length := by omega
      have bn11 : s11_ < M.length := by omega
      have bz11 : (0:Int) ≤ s11_ := by omega
      have b12 : s12_ < 16 := hb s12_ (by simp)
      have bb12 : (s12_:Int) < M.length := by omega
      have bn12 : s12_ < M.length := by omega
      have bz12 : (0:Int) ≤ s12_ := by omega
      have b13 : s13_ < 16 := hb s13_ (by simp)
      have bb13 : (s13_:Int) < M.length := by omega
      have bn13 : s13_ < M.length := by omega
      have bz13 : (0:Int) ≤ s13_ := by omega
      have b14 : s14_ < 16 := hb s14_ (by simp)
      have bb14 : (s14_:Int) < M.length := by omega
      have bn14 : s14_ < M.length := by omega
      have bz14 : (0:Int) ≤ s14_ := by omega
      have b15 : s15_ < 16 := hb s15_ (by simp)
      have bb15 : (s15_:Int) < M.length := by omega
      have bn15 : s15_ < M.length := by omega
      have bz15 : (0:Int) ≤ s15_ := by omega
      generalize rnsB M k V3 = U0 at *
      clear e_ hb bw ro
      refine AW.skip ?_
      repeat refine AW.seq ?_
      refine AW.block ?_
      repeat refine AW.seq ?_
      refine AW.reg ?_
      iterate 1 refine AOL.s1 (h := ?_)
      refine AOL.callD rfl (cR) (by kernel_rfl) (by first | rfl | exact a32_free _ | (show (frees (a32 _) && _) = true; rw [a32_free]; rfl)) (by first | rfl | exact a32_free _ | (show (frees (a32 _) && _) = true; rw [a32_free]; rfl)) (h := ?_)
      iterate 1 refine AOL.s1 (h := ?_)
      refine AOL.nil ?_
      refine AW.kq [4, 8, 9, 11, 13, 14] (h := ?_)
      repeat refine AW.seq ?_
      refine AW.drw 13 [] (by kernel_rfl) (h := ?_)
      iterate 13 refine ADL.dm 1 (h := ?_)
      refine ADL.done hmix rfl rfl (hT := ?_)
      refine AOL.callD rfl (obolref05_mix_c (V := U0) (a := 0) (b := 4) (c := 8) (d := 12) lk (by decide) (by decide) (by decide) (by decide)) (by kernel_rfl) (by first | rfl | exact a32_free _ | (show (frees (a32 _) && _) = true; rw [a32_free]; rfl)) (by first | rfl | exact a32_free _ | (show (frees (a32 _) && _) = true; rw [a32_free]; rfl)) (h := ?_)
      iterate 1 refine AOL.s1 (h := ?_)
      refine AOL.nil ?_
      refine AW.kq [4, 8, 9, 11, 13, 14] (h := ?_)
      generalize hU1 : mixB U0 _ _ _ _ _ _ = U1
      have lU1 : U1.length = 16 := by rw [← hU1, mixB_len, lk]
      have qU1 : a32 U1 ++ List.drop 16 (a32 U0) = a32 U1 := by rw [List.drop_of_length_le (by rw [a32_len, lk]; decide), List.append_nil]
      obtain ⟨p_, q_, r_, he⟩ : ∃ p q r, a32 U1 = p :: q :: r := a32_two lU1 (by decide)
      rw [he]
      dsimp only
      rw [← he, qU1]
      clear he p_ q_ r_ qU1
      repeat refine AW.seq ?_
      refine AW.drw 13 [] (by kernel_rfl) (h := ?_)
      iterate 13 refine ADL.dm 1 (h := ?_)
      refine ADL.done hmix rfl rfl (hT := ?_)
      refine AOL.callD rfl (obolref05_mix_c (V := U1) (a := 1) (b := 5) (c := 9) (d := 13) lU1 (by decide) (by decide) (by decide) (by decide)) (by kernel_rfl) (by first | rfl | exact a32_free _ | (show (frees (a32 _) && _) = true; rw [a32_free]; rfl)) (by first | rfl | exact a32_free _ | (show (frees (a32 _) && _) = true; rw [a32_free]; rfl)) (h := ?_)
      iterate 1 refine AOL.s1 (h := ?_)
      refine AOL.nil ?_
      refine AW.kq [4, 8, 9, 11, 13, 14] (h := ?_)
      generalize hU2 : mixB U1 _ _ _ _ _ _ = U2
      have lU2 : U2.length = 16 := by rw [← hU2, mixB_len, lU1]
      have qU2 : a32 U2 ++ List.drop 16 (a32 U1) = a32 U2 := by rw [List.drop_of_length_le (by rw [a32_len, lU1]; decide), List.append_nil]
      obtain ⟨p_, q_, r_, he⟩ : ∃ p q r, a32 U2 = p :: q :: r := a32_two lU2 (by decide)
      rw [he]
      dsimp only
      rw [← he, qU2]
      clear he p_ q_ r_ qU2
      repeat refine AW.seq ?_
      refine AW.drw 13 [] (by kernel_rfl) (h := ?_)
      iterate 13 refine ADL.dm 1 (h := ?_)
      refine ADL.done hmix rfl rfl (hT := ?_)
      refine AOL.callD rfl (obolref05_mix_c (V := U2) (a := 2) (b := 6) (c := 10) (d := 14) lU2 (by decide) (by decide) (by decide) (by decide)) (by kernel_rfl) (by first | rfl | exact a32_free _ | (show (frees (a32 _) && _) = true; rw [a32_free]; rfl)) (by first | rfl | exact a32_free _ | (show (frees (a32 _) && _) = true; rw [a32_free]; rfl)) (h := ?_)
      iterate 1 refine AOL.s1 (h := ?_)
      refine AOL.nil ?_
      refine AW.kq [4, 8, 9, 11, 13, 14] (h := ?_)
      generalize hU3 : mixB U2 _ _ _ _ _ _ = U3
      have lU3 : U3.length = 16 := by rw [← hU3, mixB_len, lU2]
      have qU3 : a32 U3 ++ List.drop 16 (a32 U2) = a32 U3 := by rw [List.drop_of_length_le (by rw [a32_len, lU2]; decide), List.append_nil]
      obtain ⟨p_, q_, r_, he⟩ : ∃ p q r, a32 U3 = p :: q :: r := a32_two lU3 (by decide)
      rw [he]
      dsimp only
      rw [← he, qU3]
      clear he p_ q_ r_ qU3
      repeat refine AW.seq ?_
      refine AW.drw 13 [] (by kernel_rfl) (h := ?_)
      iterate 13 refine ADL.dm 1 (h := ?_)
      refine ADL.done hmix rfl rfl (hT := ?_)
      refine AOL.callD rfl (obolref05_mix_c (V := U3) (a := 3) (b := 7) (c := 11) (d := 15) lU3 (by decide) (by decide) (by decide) (by decide)) (by kernel_rfl) (by first | rfl | exact a32_free _ | (show (frees (a32 _) && _) = true; rw [a32_free]; rfl)) (by first | rfl | exact a32_free _ | (show (frees (a32 _) && _) = true; rw [a32_free]; rfl)) (h := ?_)
      iterate 1 refine AOL.s1 (h := ?_)
      refine AOL.nil ?_
      refine AW.kq [4, 8, 9, 11, 13, 14] (h := ?_)
      generalize hU4 : mixB U3 _ _ _ _ _ _ = U4
      have lU4 : U4.length = 16 := by rw [← hU4, mixB_len, lU3]
      have qU4 : a32 U4 ++ List.drop 16 (a32 U3) = a32 U4 := by rw [List.drop_of_length_le (by rw [a32_len, lU3]; decide), List.append_nil]
      obtain ⟨p_, q_, r_, he⟩ : ∃ p q r, a32 U4 = p :: q :: r := a32_two lU4 (by decide)
      rw [he]
      dsimp only
      rw [← he, qU4]
      clear he p_ q_ r_ qU4
      repeat refine AW.seq ?_
      refine AW.drw 13 [] (by kernel_rfl) (h := ?_)
      iterate 13 refine ADL.dm 1 (h := ?_)
      refine ADL.done hmix rfl rfl (hT := ?_)
      refine AOL.callD rfl (obolref05_mix_c (V := U4) (a := 0) (b := 5) (c := 10) (d := 15) lU4 (by decide) (by decide) (by decide) (by decide)) (by kernel_rfl) (by first | rfl | exact a32_free _ | (show (frees (a32 _) && _) = true; rw [a32_free]; rfl)) (by first | rfl | exact a32_free _ | (show (frees (a32 _) && _) = true; rw [a32_free]; rfl)) (h := ?_)
      iterate 1 refine AOL.s1 (h := ?_)
      refine AOL.nil ?_
      refine AW.kq [4, 8, 9, 11, 13, 14] (h := ?_)
      generalize hU5 : mixB U4 _ _ _ _ _ _ = U5
      have lU5 : U5.length = 16 := by rw [← hU5, mixB_len, lU4]
      have qU5 : a32 U5 ++ List.drop 16 (a32 U4) = a32 U5 := by rw [List.drop_of_length_le (by rw [a32_len, lU4]; decide), List.append_nil]
      obtain ⟨p_, q_, r_, he⟩ : ∃ p q r, a32 U5 = p :: q :: r := a32_two lU5 (by decide)
      rw [he]
      dsimp only
      rw [← he, qU5]
      clear he p_ q_ r_ qU5
      repeat refine AW.seq ?_
      refine AW.drw 13 [] (by kernel_rfl) (h := ?_)
      iterate 13 refine ADL.dm 1 (h := ?_)
      refine ADL.done hmix rfl rfl (hT := ?_)
      refine AOL.callD rfl (obolref05_mix_c (V := U5) (a := 1) (b := 6) (c := 11) (d := 12) lU5 (by decide) (by decide) (by decide) (by decide)) (by kernel_rfl) (by first | rfl | exact a32_free _ | (show (frees (a32 _) && _) = true; rw [a32_free]; rfl)) (by first | rfl | exact a32_free _ | (show (frees (a32 _) && _) = true; rw [a32_free]; rfl)) (h := ?_)
      iterate 1 refine AOL.s1 (h := ?_)
      refine AOL.nil ?_
      refine AW.kq [4, 8, 9, 11, 13, 14] (h := ?_)
      generalize hU6 : mixB U5 _ _ _ _ _ _ = U6
      have lU6 : U6.length = 16 := by rw [← hU6, mixB_len, lU5]
      have qU6 : a32 U6 ++ List.drop 16 (a32 U5) = a32 U6 := by rw [List.drop_of_length_le (by rw [a32_len, lU5]; decide), List.append_nil]
      obtain ⟨p_, q_, r_, he⟩ : ∃ p q r, a32 U6 = p :: q :: r := a32_two lU6 (by decide)
      rw [he]
      dsimp only
      rw [← he, qU6]
      clear he p_ q_ r_ qU6
      repeat refine AW.seq ?_
      refine AW.drw 13 [] (by kernel_rfl) (h := ?_)
      iterate 13 refine ADL.dm 1 (h := ?_)
      refine ADL.done hmix rfl rfl (hT := ?_)
      refine AOL.callD rfl (obolref05_mix_c (V := U6) (a := 2) (b := 7) (c := 8) (d := 13) lU6 (by decide) (by decide) (by decide) (by decide)) (by kernel_rfl) (by first | rfl | exact a32_free _ | (show (frees (a32 _) && _) = true; rw [a32_free]; rfl)) (by first | rfl | exact a32_free _ | (show (frees (a32 _) && _) = true; rw [a32_free]; rfl)) (h := ?_)
      iterate 1 refine AOL.s1 (h := ?_)
      refine AOL.nil ?_
      refine AW.kq [4, 8, 9, 11, 13, 14] (h := ?_)
      generalize hU7 : mixB U6 _ _ _ _ _ _ = U7
      have lU7 : U7.length = 16 := by rw [← hU7, mixB_len, lU6]
      have qU7 : a32 U7 ++ List.drop 16 (a32 U6) = a32 U7 := by rw [List.drop_of_length_le (by rw [a32_len, lU6]; decide), List.append_nil]
      obtain ⟨p_, q_, r_, he⟩ : ∃ p q r, a32 U7 = p :: q :: r := a32_two lU7 (by decide)
      rw [he]
      dsimp only
      rw [← he, qU7]
      clear he p_ q_ r_ qU7
      repeat refine AW.seq ?_
      refine AW.drw 13 [] (by kernel_rfl) (h := ?_)
      iterate 13 refine ADL.dm 1 (h := ?_)
      refine ADL.done hmix rfl rfl (hT := ?_)
      refine AOL.callD rfl (obolref05_mix_c (V := U7) (a := 3) (b := 4) (c := 9) (d := 14) lU7 (by decide) (by decide) (by decide) (by decide)) (by kernel_rfl) (by first | rfl | exact a32_free _ | (show (frees (a32 _) && _) = true; rw [a32_free]; rfl)) (by first | rfl | exact a32_free _ | (show (frees (a32 _) && _) = true; rw [a32_free]; rfl)) (h := ?_)
      iterate 1 refine AOL.s1 (h := ?_)
      refine AOL.nil ?_
      repeat refine AW.seq ?_
      refine AW.reg ?_
      iterate 3 refine AOL.s1 (h := ?_)
      refine AOL.nil ?_
      generalize hU8 : mixB U7 _ _ _ _ _ _ = U8
      have lU8 : U8.length = 16 := by rw [← hU8, mixB_len, lU7]
      have qU8 : a32 U8 ++ List.drop 16 (a32 U7) = a32 U8 := by rw [List.drop_of_length_le (by rw [a32_len, lU7]; decide), List.append_nil]
      obtain ⟨p_, q_, r_, he⟩ : ∃ p q r, a32 U8 = p :: q :: r := a32_two lU8 (by decide)
      rw [he]
      dsimp only
      rw [← he, qU8]
      clear he p_ q_ r_ qU8
      have hU : rnsB M (k + 1) V3 = U8 := by rw [hrn, ← hU8, ← hU7, ← hU6, ← hU5, ← hU4, ← hU3, ← hU2, ← hU1]; rfl
      exact ⟨n, by omega, k + 1, by rw [hU]; rfl, by omega⟩
    · obtain rfl : k = 10 := by simp at e_; omega
      have lW := rnsB_len M 10 V3
      rw [lV3] at lW
      generalize hW : rnsB M 10 V3 = W at *
      repeat refine AW.seq ?_
      refine AW.exit ?_
      repeat (first | refine Kseq.ex ?_ | refine Kloop.ex ?_ | refine Kblock.miss (by decide) ?_)
      refine Kblock.hit ?_
      refine AW.kq [4, 8, 11] (h := ?_)
      repeat refine AW.seq ?_
      refine AW.reg ?_
      iterate 1 refine AOL.s1 (h := ?_)
      refine AOL.nil ?_
      refine AW.kq [4, 8, 11, 15] (h := ?_)
      repeat refine AW.seq ?_
      refine AW.block ?_
      repeat refine AW.seq ?_
      refine AW.loopK [4, 8, 11, 15] (fun n' s => ∃ (j : Nat), s = ⟨190, [(4, .ptr 1064 0), (8, .ptr 1128 0), (11, .ptr 1176 0), (15, i j)], [(1064, ⟨109, true, a32 (finB W j H)⟩), (1128, ⟨109, true, a32 (List.replicate 8 0)⟩), (1176, ⟨116, true, a32 W⟩)]⟩ ∧ j + n' = 8) (8) ?_ ?_
      · exact ⟨0, rfl, rfl⟩
      rintro n' s ⟨j, rfl, hj⟩
      repeat refine AW.seq ?_
      refine AW.reg ?_
      iterate 2 refine AOL.s1 (h := ?_)
      refine AOL.nil ?_
      refine AW.kq [4, 8, 11, 15, 172] (h := ?_)
      repeat refine AW.seq ?_
      refine AW.cond rfl (fun g_ => ?_) (fun g_ => ?_)
      · have j1 : j < 8 := by simp at g_; omega
        obtain ⟨n, rfl⟩ : ∃ m, n' = m + 1 := ⟨n' - 1, by omega⟩
        have k2 : IntKind.i64.wrap ((j : Int) + 1) = ((j + 1 : Nat) : Int) := by rw [wrapI_o (by omega) (by omega)]; omega
        have k8 : IntKind.i64.wrap (8 + (j : Int)) = ((8 + j : Nat) : Int) := by rw [wrapI_o (by omega) (by omega)]; omega
        have li := finB_len W j H
        rw [hH] at li
        have j0 : (0:Int) ≤ j := by omega
        have j8 : (0:Int) ≤ ((8 + j : Nat):Int) := by omega
        have j2 : (j:Int) < ((8:Nat):Int) := by omega
        have j3 : (j:Int) < ((16:Nat):Int) := by omega
        have j4 : ((8 + j : Nat):Int) < ((16:Nat):Int) := by omega
        have j5 : j ≤ 7 := by omega
        have j6 : j ≤ 15 := by omega
        have j7 : 8 + j ≤ 15 := by omega
        have j9 : 8 + j < 16 := by omega
        have j10 : j < 16 := by omega
        clear g_
        refine AW.skip ?_
        repeat refine AW.seq ?_
        refine AW.block ?_
        repeat refine AW.seq ?_
        refine AW.drw 13 [] (by kernel_rfl) (h := ?_)
        iterate 13 refine ADL.dm 1 (h := ?_)
        refine ADL.done hmix rfl rfl (hT := ?_)
        iterate 2 refine AOL.s1 (h := ?_)
        refine AOL.nil ?_
        repeat refine AW.seq ?_
        refine AW.reg ?_
        iterate 3 refine AOL.s1 (h := ?_)
        refine AOL.nil ?_
        exact ⟨n, by omega, j + 1, rfl, by omega⟩
      · obtain rfl : j = 8 := by simp at g_; omega
        have lZ := finB_len W 8 H
        rw [hH] at lZ
        have hZ : finB W 8 H = finB (rnsB M 10 (lstB (cntB V0 c) l)) 8 H := by rw [← hW, ← hV3, ← hV2]; rfl
        rw [← hZ]
        clear hZ
        generalize finB W 8 H = Z at *
        repeat refine AW.seq ?_
        refine AW.exit ?_
        repeat (first | refine Kseq.ex ?_ | refine Kloop.ex ?_ | refine Kblock.miss (by decide) ?_)
        refine Kblock.hit ?_
        refine AW.kq [4, 8] (h := ?_)
        repeat refine AW.seq ?_
        refine AW.reg ?_
        iterate 2 refine AOL.s1 (h := ?_)
        refine AOL.nil ?_
        refine AW.kq [8] (h := ?_)
        have qz : a32 Z ++ List.drop 8 (a32 (List.replicate 8 0)) = a32 Z := by rw [List.drop_of_length_le (by rw [a32_len, List.length_replicate]; decide), List.append_nil]
        obtain ⟨p_, q_, r_, he⟩ : ∃ p q r, a32 Z = p :: q :: r := a32_two lZ (by decide)
        rw [he]
        dsimp only
        rw [← he, qz]
        clear he p_ q_ r_
        repeat refine AW.seq ?_
        refine AW.ret ?_
        refine ⟨_, [], a32_res (n := 8) rfl rfl rfl rfl lZ, HOk.nil _, ?_⟩
        rfl
end Go.Proofs.Ythajlelljnkdiaa.E.M

