/- obollaw21.scan: a key's notes: a contract over E. -/
import Derived.Test.YthajlelljnkdiaaWla
import Derived.Test.YthajlelljnkdiaaProg
import Derived.KernelRfl
set_option linter.unusedVariables false
set_option linter.unusedSimpArgs false
set_option maxRecDepth 10000
open Go Go.Proofs.Ythajlelljnkdiaa.E Go.Proofs
namespace Go.Proofs.Ythajlelljnkdiaa.E.M
abbrev Hd := (Int × Int × Int) × Int × Bool
abbrev hdc (h : Hd) : List AV := [u h.1.1, u h.1.2.1, u h.1.2.2, i h.2.1, bo h.2.2]
theorem hdc_len (h : Hd) : (hdc h).length = 5 := rfl
def oneH (k : Int) (L : List Tx) (p : Int) (s : Sd) (m : Int) : List Hd :=
  if opnB k s = true ∧ mrkH (opnN k s) = m then [(opnN k s, p, endedH L (manyH [twoH k 1, (opnN k s).2.2, p]))] else []
def scnG (k : Int) (L : List Tx) : Nat → List Tx → List Hd
  | _, [] => []
  | j, t :: r => oneH k L ((2 * j : Nat) : Int) t.s0 t.m0 ++ oneH k L ((2 * j + 1 : Nat) : Int) t.s1 t.m1 ++ scnG k L (j + 1) r
def scnF (k : Int) (L : List Tx) : List Hd := scnG k L 0 L
theorem oneH_len (k : Int) (L : List Tx) (p : Int) (s : Sd) (m : Int) : (oneH k L p s m).length ≤ 1 := by unfold oneH; split <;> simp
abbrev fewT (L : List Tx) : Prop := L.length ≤ 12 ∧ ∀ t ∈ L, wTx t ∧ t.s0.2.length ≤ 200 ∧ t.s1.2.length ≤ 200
theorem opnN_w {k : Int} {s : Sd} : wN (opnN k s) := ⟨num_w (strF_dig _ _ _), (twoH_l k 2).w, num_w ((strF_dig _ _ _).drop 8)⟩
theorem opnF_w {k : Int} {s : Sd} : wN (opnF k s) := by
  unfold opnF; split
  · exact opnN_w
  · exact ⟨by decide, by decide, by decide⟩
set_option maxHeartbeats 16000000 in
theorem obollaw21_scan_c {k : Int} {L : List Tx} (hk : w64 k) (hL : fewT L) : Fn Try.prog 19 [u k, slF txc L] [] (Tells (.ref 1000 0 (scnF k L).length 5) [(1000, ⟨80, false, fm hdc (scnF k L)⟩)]) := by
  refine Fn.enter Try.func19 Try.ntmps19 rfl (h := ?_)
  have tf := tfw
  have ot_ : (false || true) = true := rfl
  have lL := hL.1
  have n0 : Int.toNat 0 = 0 := rfl
  have n1 : Int.toNat 1 = 1 := rfl
  repeat refine AW.seq ?_
  refine AW.reg ?_
  iterate 1 refine AOL.s1 (h := ?_)
  refine AOL.nil ?_
  refine AW.kq [0, 1] (h := ?_)
  repeat refine AW.seq ?_
  refine AW.reg ?_
  iterate 1 refine AOL.s1 (h := ?_)
  refine AOL.nil ?_
  refine AW.kq [0, 1, 5] (h := ?_)
  repeat refine AW.seq ?_
  refine AW.reg ?_
  iterate 1 refine AOL.s1 (h := ?_)
  refine AOL.nil ?_
  refine AW.kq [0, 1, 5, 6] (h := ?_)
  refine AW.born 5 1080 80 5 (.inl rfl) (h := ?_)
  repeat refine AW.seq ?_
  refine AW.block ?_
  repeat refine AW.seq ?_
  refine AW.loopK [0, 1, 5, 6] (fun n' s => ∃ (j : Nat) (r : List Tx) (O : List Hd), s = ⟨71, [(0, u k), (1, slF txc L), (5, .ref 1080 0 O.length 5), (6, i j)], [(1080, ⟨80, false, fm hdc O⟩)]⟩ ∧ L.drop j = r ∧ j ≤ L.length ∧ n' = r.length ∧ O.length ≤ 2 * j ∧ O ++ scnG k L j r = scnF k L) (L.length) ?_ ?_
  · exact ⟨0, L, [], rfl, rfl, Nat.zero_le _, rfl, Nat.zero_le _, rfl⟩
  rintro n' s ⟨j, r, O, rfl, hr, hj, rfl, lO, hO⟩
  repeat refine AW.seq ?_
  refine AW.reg ?_
  iterate 4 refine AOL.s1 (h := ?_)
  refine AOL.nil ?_
  refine AW.kq [0, 1, 5, 6, 14] (h := ?_)
  repeat refine AW.seq ?_
  refine AW.cond rfl (fun c_ => ?_) (fun c_ => ?_)
  · have hj3 : j < L.length := by simp at c_; omega
    obtain ⟨t, r, rfl⟩ := ends_cons hr hj (by simpa using c_)
    have hd := dconsq hr
    have e4 : IntKind.i64.wrap ((j:Int) + 1) = ((j + 1 : Nat) : Int) := by rw [wrapI_o (by omega) (by omega)]; omega
    have ht := tx_at hr
    have j0 : (0:Int) ≤ (j:Nat) := by omega
    have l0 : (j:Int) < L.length := by omega
    obtain ⟨_, hr1, hg⟩ := hd
    have hw := hL.2 t (List.mem_of_getElem? hg)
    have hO2 : O ++ oneH k L ((2 * j : Nat) : Int) t.s0 t.m0 ++ oneH k L ((2 * j + 1 : Nat) : Int) t.s1 t.m1 ++ scnG k L (j + 1) r = scnF k L := by
      rw [← hO]; simp only [scnG, List.append_assoc]
    have e2 : IntKind.i64.wrap (2 * (j:Int)) = ((2 * j : Nat) : Int) := by rw [wrapI_o (by omega) (by omega)]; omega
    clear c_ hr hg hO
    have a0 := oneH_len k L ((2 * j : Nat) : Int) t.s0 t.m0
    have a1 := oneH_len k L ((2 * j + 1 : Nat) : Int) t.s1 t.m1
    refine AW.skip ?_
    repeat refine AW.seq ?_
    refine AW.block ?_
    repeat refine AW.seq ?_
    refine AW.reg ?_
    iterate 1 refine AOL.s1 (h := ?_)
    refine AOL.nil ?_
    refine AW.kq [0, 1, 5, 6, 7] (h := ?_)
    repeat refine AW.seq ?_
    refine AW.block ?_
    repeat refine AW.seq ?_
    refine AW.loopK [0, 1, 5, 6, 7] (fun n' s => ∃ (b : Nat) (G : List Hd), s = ⟨71, [(0, u k), (1, slF txc L), (5, .ref 1080 0 G.length 5), (6, i j), (7, i b)], [(1080, ⟨80, false, fm hdc G⟩)]⟩ ∧ b + n' = 2 ∧ (if b = 0 then O else if b = 1 then O ++ oneH k L ((2 * j : Nat) : Int) t.s0 t.m0 else O ++ oneH k L ((2 * j : Nat) : Int) t.s0 t.m0 ++ oneH k L ((2 * j + 1 : Nat) : Int) t.s1 t.m1) = G) (2) ?_ ?_
    · exact ⟨0, O, rfl, rfl, rfl⟩
    rintro n' s ⟨b, G, rfl, hb, hG⟩
    repeat refine AW.seq ?_
    refine AW.reg ?_
    iterate 2 refine AOL.s1 (h := ?_)
    refine AOL.nil ?_
    refine AW.kq [0, 1, 5, 6, 7, 18] (h := ?_)
    repeat refine AW.seq ?_
    refine AW.cond rfl (fun d_ => ?_) (fun d_ => ?_)
    · have b1 : b < 2 := by simp at d_; omega
      obtain ⟨n, rfl⟩ : ∃ m, n' = m + 1 := ⟨n' - 1, by omega⟩
      have k2 : IntKind.i64.wrap ((b : Int) + 1) = ((b + 1 : Nat) : Int) := by rw [wrapI_o (by omega) (by omega)]; omega
      have b0 : (0:Int) ≤ (b:Nat) := by omega
      have b2 : (b:Int) < ((2:Nat):Int) := by omega
      have e5 : IntKind.i64.wrap (((2 * j : Nat) : Int) + (b:Int)) = ((2 * j + b : Nat) : Int) := by rw [wrapI_o (by omega) (by omega)]; omega
      have e6 : IntKind.u64.wrap ((2 * j + b : Nat) : Int) = ((2 * j + b : Nat) : Int) := i64_o (by omega) (by omega)
      have wp : w64 ((2 * j + b : Nat) : Int) := ⟨by omega, by omega⟩
      obtain ⟨s, m, z1, z2, hs1, hs2, ws, wm, hN⟩ : ∃ (s : Sd) (m : Int) (z1 z2 : List AV), List.drop (b * 3) (u t.s0.1.1 :: u t.s0.1.2 :: sl8 t.s0.2 :: u t.s1.1.1 :: u t.s1.1.2 :: sl8 t.s1.2 :: t.q0 :: t.q1 :: t.q2 :: t.q3 :: t.q4 :: t.q5 :: t.q6 :: t.q7 :: t.q8 :: t.q9 :: t.q10 :: t.q11 :: t.q12 :: t.q13 :: fm txc r) = u s.1.1 :: u s.1.2 :: sl8 s.2 :: z1 ∧ List.drop b (u t.m0 :: u t.m1 :: u t.s0.1.1 :: u t.s0.1.2 :: sl8 t.s0.2 :: u t.s1.1.1 :: u t.s1.1.2 :: sl8 t.s1.2 :: t.q0 :: t.q1 :: t.q2 :: t.q3 :: t.q4 :: t.q5 :: t.q6 :: t.q7 :: t.q8 :: t.q9 :: t.q10 :: t.q11 :: t.q12 :: t.q13 :: fm txc r) = u m :: z2 ∧ wSd s ∧ w64 m ∧ (if b + 1 = 0 then O else if b + 1 = 1 then O ++ oneH k L ((2 * j : Nat) : Int) t.s0 t.m0 else O ++ oneH k L ((2 * j : Nat) : Int) t.s0 t.m0 ++ oneH k L ((2 * j + 1 : Nat) : Int) t.s1 t.m1) = G ++ oneH k L ((2 * j + b : Nat) : Int) s m := by
        obtain ⟨⟨w1, w2, w3, w4, w5, w6, w7, w8⟩, w9, w10⟩ := hw
        have : b = 0 ∨ b = 1 := by omega
        rcases this with rfl | rfl
        · exact ⟨t.s0, t.m0, _, _, rfl, rfl, ⟨w5, w6, by omega⟩, w3, by rw [← hG]; rfl⟩
        · exact ⟨t.s1, t.m1, _, _, rfl, rfl, ⟨w7, w8, by omega⟩, w4, by rw [← hG]; rfl⟩
      have cO := obolref17_Open_c hk ws
      have wN := opnN_w (k := k) (s := s)
      have lG : G.length ≤ 24 := by
        rw [← hG]
        split
        · omega
        · split <;> simp only [List.length_append] <;> omega
      clear d_ hG hw
      replace hN : id (_ = _) := hN
      refine AW.skip ?_
      repeat refine AW.seq ?_
      refine AW.midK [0, 1, 5, 6, 7] (fun t => ∃ (X : List Hd), t = ⟨71, [(0, u k), (1, slF txc L), (5, .ref 1080 0 (G ++ X).length 5), (6, i j), (7, i b)], [(1080, ⟨80, false, fm hdc (G ++ X)⟩)]⟩ ∧ oneH k L ((2 * j + b : Nat) : Int) s m = X) ?_ ?_
      · refine AW.block ?_
        repeat refine AW.seq ?_
        refine AW.reg ?_
        iterate 8 refine AOL.s1 (h := ?_)
        refine AOL.callD rfl (cO) (by kernel_rfl) rfl rfl (h := ?_)
        iterate 6 refine AOL.s1 (h := ?_)
        refine AOL.nil ?_
        refine AW.kq [0, 1, 5, 6, 7, 8, 9] (h := ?_)
        repeat refine AW.seq ?_
        refine AW.midK [0, 1, 5, 6, 7, 8, 46] (fun t => t = ⟨71, [(0, u k), (1, slF txc L), (5, .ref 1080 0 G.length 5), (6, i j), (7, i b), (8, .ptr 1128 0), (46, bo (!(opnB k s && mrkH (opnF k s) == m)))], [(1080, ⟨80, false, fm hdc G⟩), (1128, ⟨35, true, [u (opnF k s).1, u (opnF k s).2.1, u (opnF k s).2.2]⟩)]⟩) ?_ ?_
        · have cM := obolref17_Mark_c (opnF_w (k := k) (s := s))
          cases hB : opnB k s
          · refine AW.drw 12 [] (by kernel_rfl) (h := ?_)
            iterate 12 refine ADL.dm 1 (h := ?_)
            refine ADL.done hmix rfl rfl (hT := ?_)
            iterate 2 refine AOL.s1 (h := ?_)
            refine AOL.nil ?_
            exact rfl
          · refine AW.drw 12 [] (by kernel_rfl) (h := ?_)
            iterate 4 refine ADL.dm 1 (h := ?_)
            refine ADL.call rfl (cM) (by kernel_rfl) rfl rfl (h := ?_)
            iterate 7 refine ADL.dm 1 (h := ?_)
            refine ADL.done hmix rfl rfl (hT := ?_)
            iterate 2 refine AOL.s1 (h := ?_)
            refine AOL.nil ?_
            exact rfl
        rintro t rfl
        skip
        skip
        skip
        skip
        skip
        skip
        repeat refine AW.seq ?_
        skip
        repeat refine AW.seq ?_
        refine AW.cond rfl (fun c_ => ?_) (fun c_ => ?_)
        · have hX : oneH k L ((2 * j + b : Nat) : Int) s m = [] := by
            unfold oneH
            rw [if_neg]
            rintro ⟨h1, h2⟩
            have h3 : opnF k s = opnN k s := if_pos h1
            rw [h1, h3, h2] at c_
            simp at c_
          refine AW.let 1128 (h := ?_)
          repeat refine AW.seq ?_
          refine AW.exit ?_
          repeat (first | refine Kseq.ex ?_ | refine Kloop.ex ?_ | refine Kblock.miss (by decide) ?_)
          refine Kblock.hit ?_
          exact ⟨[], by rw [List.append_nil]; rfl, hX⟩
        have hB : opnB k s = true ∧ mrkH (opnN k s) = m := by
          cases h1 : opnB k s
          · rw [h1] at c_; cases c_
          · have h3 : opnF k s = opnN k s := if_pos h1
            rw [h1, h3] at c_
            simp only [Bool.true_and, Bool.not_eq_false', beq_iff_eq] at c_
            exact ⟨rfl, c_⟩
        have hF : opnF k s = opnN k s := if_pos hB.1
        have hX : oneH k L ((2 * j + b : Nat) : Int) s m = [(opnN k s, ((2 * j + b : Nat) : Int), endedH L (manyH [twoH k 1, (opnN k s).2.2, ((2 * j + b : Nat) : Int)]))] := if_pos hB
        rw [hF]
        clear c_ hB hF
        generalize opnN k s = nn at *
        obtain ⟨nv, no, nr⟩ := nn
        simp only at hX
        have cT := obolref10_Two_c (a := k) (b := 1) hk (by decide)
        have cM := obolref10_Many_c (V := [twoH k 1, nr, ((2 * j + b : Nat) : Int)]) (by intro x hx; simp only [List.mem_cons, List.not_mem_nil, or_false] at hx; rcases hx with rfl | rfl | rfl; exact (twoH_l _ _).w; exact wN.2.2; exact wp) (by simp)
        have wM : w64 (manyH [twoH k 1, nr, ((2 * j + b : Nat) : Int)]) := (manyH_l _).w
        generalize manyH [twoH k 1, nr, ((2 * j + b : Nat) : Int)] = MM at *
        have cE := obollaw21_ended_c (L := L) (e := MM) (by omega)
        generalize endedH L MM = EE at *
        replace hX : id (_ = _) := hX
        have fl : (fm hdc G).length = G.length * 5 := fm_len hdc_len G
        have f3 : (G.length + 1) * 40 ≤ 140737488355328 := by omega
        have f6 : G.length ≤ 4611686018427387903 := by omega
        have f7 : ∀ a b c d e, fm hdc G ++ [u a, u b, u c, i d, bo e] = fm hdc (G ++ [((a, b, c), d, e)]) := fun a b c d e => fm_snoc (f := hdc) G ((a, b, c), d, e)
        refine AW.skip ?_
        repeat refine AW.seq ?_
        refine AW.drw 9 [] (by kernel_rfl) (h := ?_)
        iterate 1 refine ADL.dm 1 (h := ?_)
        refine ADL.call rfl (cT) (by kernel_rfl) rfl rfl (h := ?_)
        iterate 7 refine ADL.dm 1 (h := ?_)
        refine ADL.done hmix rfl rfl (hT := ?_)
        iterate 1 refine AOL.s1 (h := ?_)
        refine AOL.fz 1896 rfl (fun h => by cases h) (h := ?_)
        refine AOL.callD rfl (cM) (by kernel_rfl) rfl rfl (h := ?_)
        iterate 1 refine AOL.s1 (h := ?_)
        refine AOL.nil ?_
        refine AW.kq [0, 1, 5, 6, 7, 8, 10] (h := ?_)
        repeat refine AW.seq ?_
        refine AW.drw 11 [2088] (by kernel_rfl) (h := ?_)
        iterate 8 refine ADL.dm 1 (h := ?_)
        refine ADL.call rfl (cE) (by kernel_rfl) rfl rfl (h := ?_)
        iterate 2 refine ADL.dm 1 (h := ?_)
        refine ADL.done hmix rfl rfl (hT := ?_)
        iterate 2 refine AOL.s1 (h := ?_)
        refine AOL.let 1128 (h := ?_)
        refine AOL.nil ?_
        exact ⟨[((nv, no, nr), ((2 * j + b : Nat) : Int), EE)], by rw [List.length_append]; rfl, hX⟩
      rintro t ⟨X, rfl, hX⟩
      repeat refine AW.seq ?_
      skip
      skip
      refine AW.reg ?_
      iterate 3 refine AOL.s1 (h := ?_)
      refine AOL.nil ?_
      exact ⟨n, by omega, b + 1, G ++ X, rfl, by omega, by rw [show _ = _ from hN, hX]⟩
    · obtain rfl : b = 2 := by simp at d_; omega
      have hG : O ++ oneH k L ((2 * j : Nat) : Int) t.s0 t.m0 ++ oneH k L ((2 * j + 1 : Nat) : Int) t.s1 t.m1 = G := hG
      have lG : G.length ≤ 2 * (j + 1) := by rw [← hG]; simp only [List.length_append]; omega
      rw [hG] at hO2
      repeat refine AW.seq ?_
      refine AW.exit ?_
      repeat (first | refine Kseq.ex ?_ | refine Kloop.ex ?_ | refine Kblock.miss (by decide) ?_)
      refine Kblock.hit ?_
      repeat refine AW.seq ?_
      skip
      skip
      refine AW.reg ?_
      iterate 3 refine AOL.s1 (h := ?_)
      refine AOL.nil ?_
      exact ⟨r.length, by simp only [List.length_cons]; omega, j + 1, r, G, rfl, hr1, hj3, rfl, lG, hO2⟩
  · obtain rfl := ends_nil hr (by simpa using c_)
    have hO : O = scnF k L := by rw [← hO]; exact (List.append_nil O).symm
    subst hO
    repeat refine AW.seq ?_
    refine AW.exit ?_
    repeat (first | refine Kseq.ex ?_ | refine Kloop.ex ?_ | refine Kblock.miss (by decide) ?_)
    refine Kblock.hit ?_
    refine AW.kq [5] (h := ?_)
    repeat refine AW.seq ?_
    refine AW.reg ?_
    iterate 2 refine AOL.s1 (h := ?_)
    refine AOL.nil ?_
    refine AW.kq [4] (h := ?_)
    repeat refine AW.seq ?_
    refine AW.ret ?_
    refine ⟨_, [(1080, _)], rfl, (fun p_ hp_ => by simp only [List.mem_singleton] at hp_; subst hp_; first | exact List.mem_cons_self | exact List.mem_cons_of_mem _ List.mem_cons_self | exact List.mem_cons_of_mem _ (List.mem_cons_of_mem _ List.mem_cons_self)), ?_⟩
    refine Tells.one 1080 (by decide) ?_
    first | rfl | exact frees_fm (fun _ => rfl) _ | exact a64_free _ | exact by8_free _
    skip
end Go.Proofs.Ythajlelljnkdiaa.E.M

