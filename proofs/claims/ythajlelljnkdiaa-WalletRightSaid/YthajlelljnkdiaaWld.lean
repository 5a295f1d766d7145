/- obollaw21.move: the move of a wish, or that there is none: a contract over E. -/
import Derived.Test.YthajlelljnkdiaaWlp
import Derived.Test.YthajlelljnkdiaaProg
import Derived.KernelRfl
set_option linter.unusedVariables false
set_option linter.unusedSimpArgs false
set_option maxRecDepth 10000
open Go Go.Proofs.Ythajlelljnkdiaa.E Go.Proofs
namespace Go.Proofs.Ythajlelljnkdiaa.E.M
abbrev zM : List AV := [u 0, u 0, u 0, u 0, u 0, u 0, u 0, u 0, i 0, .val (.slice none 0 0), u 0, u 0, u 0, u 0, i 0, .val (.slice none 0 0), u 0, u 0, u 0, u 0, u 0, u 0]
def movR (d : Nat) (r : AV) : Prop := (∃ c, r = .tup [.agg zM, i c] ∧ c ≠ 0) ∨ (∃ m, r = .tup [.agg (mvc m), i 0] ∧ goodM d m)
theorem scan_f {k : Int} {L : List Tx} (hk : w64 k) (hL : fewT L) : Fn Try.prog 19 [u k, slF txc L] [] (fun r _ => r = .sl (scnF k L).length (fm hdc (scnF k L))) := by
  have h := (obollaw21_scan_c hk hL).frozen (frees_fm (fun _ => rfl) _)
  have e : frz 1000 (fm hdc (scnF k L)) (.ref 1000 0 (scnF k L).length 5) = .sl (scnF k L).length (fm hdc (scnF k L)) := by
    simp only [frz, if_true]
    rw [sub_all (by rw [fm_len hdc_len]; omega)]
  rwa [e] at h
theorem path_f {L : List Int} {d a : Nat} (hL : wV L) (lL : L.length < 1000000) (hd : d ≤ 3) (ha : a < 1000) : Fn Try.prog 22 [ul L, i d, i a] [] (fun r _ => r = .sl d (fm u1 (pathS L a d))) := by
  have h := (obollaw21_path_c hL lL hd ha).frozen (frees_fm (fun _ => rfl) _)
  have e : frz 1000 (fm u1 (pathS L a d)) (.ref 1000 0 d 1) = .sl d (fm u1 (pathS L a d)) := by
    simp only [frz, if_true]
    rw [sub_all (by rw [fm_len u1_len, pathS_len]; omega)]
  rwa [e] at h
theorem cmkU {n : Nat} (h : n ≤ 1000) : cMake Try.prog 36 (n:Int) (n:Int) = some (23, 1, List.replicate n (u 0)) := by
  have tf := tfw
  simp only [cMake, tf]
  rw [if_pos (by refine ⟨rfl, by decide, rfl, by omega, by omega, by omega, by omega⟩)]
  rfl
theorem u_rep : ∀ n : Nat, List.replicate n (u 0) = fm u1 (List.replicate n 0)
  | 0 => rfl
  | n + 1 => by rw [List.replicate_succ, List.replicate_succ, u_rep n]; rfl
theorem ic_at {F : List Nat} {k x : Nat} (h : F[k]? = some x) : (ic F).drop k = i x :: ic (F.drop (k + 1)) := by
  have hk : k < F.length := (List.getElem?_eq_some_iff.1 h).1
  refine ic_drop ?_
  rw [List.drop_eq_getElem_cons hk, (List.getElem?_eq_some_iff.1 h).2]
theorem GoodI.a0 {d : Nat} {k root : Int} {x : Ip} (g : GoodI d k root x) : 0 ≤ x.a := by
  have h := g.fit
  simp only [inF, Bool.and_eq_true, decide_eq_true_eq] at h
  exact h.1.1.1.1.1.2
theorem frees_ge {c : Int} {d : Nat} (hc : c ≠ 0) : movR d (.tup [.agg zM, i c]) := .inl ⟨c, rfl, hc⟩
set_option maxHeartbeats 64000000 in
theorem obollaw21_move_c {d : Nat} {L : List Tx} {w : Ws} (hd : 1 ≤ d) (hd3 : d ≤ 3) (hL : fewT L) (hw : wWs w) (hy : mayW w = true) : Fn Try.prog 7 [i d, slF txc L, .agg (wsc w)] [] (fun r _ => movR d r) := by
  obtain ⟨k, inn, fr, sq, ou, ⟨tx, ty⟩, pay, ao, ⟨px, py⟩, d0, d1, d2, d3, d4, d5, d6, d7⟩ := w
  obtain ⟨w1, w2, w3, w4, w5, w6, w7, w8, w9, v0, v1, v2, v3, v4, v5, v6, v7⟩ := hw
  simp only at w1 w2 w3 w4 w5 w6 w7 w8 w9 v0 v1 v2 v3 v4 v5 v6 v7
  have hy2 : (0 ≤ inn ∧ inn < 4294967296) ∧ (0 ≤ ou ∧ ou < 4294967296) ∧ (0 ≤ pay ∧ pay < 4294967296) ∧ k < 288230376287764481 ∧ ao < 288230376287764481 ∧ d0 < 288230376287764481 ∧ d1 < 288230376287764481 := by
    simp only [mayW, big1, big3, fine4, keyH, Bool.and_eq_true, Bool.not_eq_true', Bool.or_eq_false_iff, decide_eq_false_iff_not, Bool.not_eq_false', decide_eq_true_eq, List.any_cons] at hy
    obtain ⟨⟨⟨⟨⟨h1, h2⟩, h3⟩, h4⟩, _⟩, _, ⟨h5, h6, _⟩, ⟨⟨⟨⟨h7, _⟩, _⟩, _⟩, _⟩⟩ := hy
    refine ⟨⟨w2.1, by omega⟩, ⟨w5.1, by omega⟩, ⟨w7.1, by omega⟩, h1.2, h7, by omega, by omega⟩
  clear hy
  obtain ⟨hi, ho, hp, hkR, haR, h0R, h1R⟩ := hy2
  have lL := hL.1
  have hT : ∀ t ∈ L, wTx t := fun t ht => (hL.2 t ht).1
  have wM := mks_w hT
  have lV : (mks L).length ≤ 24 := by rw [mks_len]; omega
  have n0 : Int.toNat 0 = 0 := rfl
  have n1 : Int.toNat 1 = 1 := rfl
  have n6 : Int.toNat 6 = 6 := rfl
  have q0 : (0:Int) ≤ 0 := by decide
  have q1 : (0:Int) ≤ 1 := by decide
  have q6 : (0:Int) ≤ 6 := by decide
  have x02 : (0:Int) < ((2:Nat):Int) := by decide
  have x12 : (1:Int) < ((2:Nat):Int) := by decide
  have x08 : (0:Int) < ((8:Nat):Int) := by decide
  have x18 : (1:Int) < ((8:Nat):Int) := by decide
  have x68 : (6:Int) < ((8:Nat):Int) := by decide
  have a1 : IntKind.i64.wrap (0 + 1) = 1 := by decide
  have a2 : IntKind.i64.wrap (1 + 1) = 2 := by decide
  have i02 : decide ((0:Int) < 2) = true := rfl
  have i12 : decide ((1:Int) < 2) = true := rfl
  have i22 : decide ((2:Int) < 2) = false := rfl
  have u00 : IntKind.u64.wrap 0 = 0 := by decide
  have u11 : IntKind.u64.wrap 1 = 1 := by decide
  show Fn Try.prog 7 [i d, slF txc L, .agg [u k, u inn, u fr, u sq, u ou, u tx, u ty, u pay, u ao, u px, u py, u d0, u d1, u d2, u d3, u d4, u d5, u d6, u d7]] [] _
  refine Fn.enter Try.func7 Try.ntmps7 rfl (h := ?_)
  have tf := tfw
  have ot_ : (false || true) = true := rfl
  repeat refine AW.seq ?_
  refine AW.reg ?_
  iterate 3 refine AOL.s1 (h := ?_)
  refine AOL.nil ?_
  refine AW.kq [0, 1, 5, 6] (h := ?_)
  repeat refine AW.seq ?_
  refine AW.reg ?_
  iterate 1 refine AOL.s1 (h := ?_)
  refine AOL.nil ?_
  refine AW.kq [0, 1, 5, 6, 8] (h := ?_)
  refine AW.born 8 1128 23 1 (.inl rfl) (h := ?_)
  repeat refine AW.seq ?_
  refine AW.reg ?_
  iterate 1 refine AOL.s1 (h := ?_)
  refine AOL.nil ?_
  refine AW.kq [0, 1, 5, 6, 8, 9] (h := ?_)
  repeat refine AW.seq ?_
  refine AW.block ?_
  repeat refine AW.seq ?_
  refine AW.loopK [0, 1, 5, 6, 8, 9] (fun n' s => ∃ (j : Nat) (r : List Tx) (O : List Int), s = ⟨204, [(0, i d), (1, slF txc L), (5, .ptr 1080 0), (6, .ptr 1096 0), (8, .ref 1128 0 O.length 1), (9, i j)], [(1080, ⟨30, true, [u k, u inn, u fr, u sq, u ou, u tx, u ty, u pay, u ao, u px, u py, u d0, u d1, u d2, u d3, u d4, u d5, u d6, u d7]⟩), (1096, ⟨42, true, [u 0, u 0, u 0, u 0, u 0, u 0, u 0, u 0, i 0, .val (.slice none 0 0), u 0, u 0, u 0, u 0, i 0, .val (.slice none 0 0), u 0, u 0, u 0, u 0, u 0, u 0]⟩), (1128, ⟨23, false, fm u1 O⟩)]⟩ ∧ L.drop j = r ∧ j ≤ L.length ∧ n' = r.length ∧ O.length = 2 * j ∧ O ++ mks r = mks L) (L.length) ?_ ?_
  · exact ⟨0, L, [], rfl, rfl, Nat.zero_le _, rfl, rfl, rfl⟩
  rintro n' s ⟨j, r, O, rfl, hr, hj, rfl, lO, hO⟩
  replace lO : id (O.length = 2 * j) := lO
  repeat refine AW.seq ?_
  refine AW.reg ?_
  iterate 4 refine AOL.s1 (h := ?_)
  refine AOL.nil ?_
  refine AW.kq [0, 1, 5, 6, 8, 9, 25] (h := ?_)
  repeat refine AW.seq ?_
  refine AW.cond rfl (fun c_ => ?_) (fun c_ => ?_)
  · have hj3 : j < L.length := by simp at c_; omega
    obtain ⟨t, r, rfl⟩ := ends_cons hr hj (by simpa using c_)
    have hd' := dconsq hr
    have e4 : IntKind.i64.wrap ((j:Int) + 1) = ((j + 1 : Nat) : Int) := by rw [wrapI_o (by omega) (by omega)]; omega
    have ht := tx_at hr
    have j0 : (0:Int) ≤ (j:Nat) := by omega
    have l0 : (j:Int) < L.length := by omega
    obtain ⟨_, hr1, _⟩ := hd'
    have lO' : O.length = 2 * j := lO
    have f1 : (fm u1 O).length = O.length := by rw [fm_len u1_len, Nat.mul_one]
    have f3 : (O.length + 2) * 8 ≤ 140737488355328 := by omega
    have f5 : O.length ≤ 140737488355326 := by omega
    have f6 : O.length ≤ 4611686018427387902 := by omega
    have f7 : ∀ a b, fm u1 O ++ [u a, u b] = fm u1 (O ++ [a, b]) := fun a b => by rw [fm_app]; rfl
    have hO2 : O ++ [t.m0, t.m1] ++ mks r = mks L := by rw [← hO, List.append_assoc]; rfl
    have lO2 : (O ++ [t.m0, t.m1]).length = 2 * (j + 1) := by rw [List.length_append, lO']; rfl
    clear c_ hr hO lO'
    refine AW.skip ?_
    repeat refine AW.seq ?_
    refine AW.block ?_
    repeat refine AW.seq ?_
    refine AW.drw 14 [1656] (by kernel_rfl) (h := ?_)
    iterate 14 refine ADL.dm 1 (h := ?_)
    refine ADL.done hmix rfl rfl (hT := ?_)
    iterate 2 refine AOL.s1 (h := ?_)
    refine AOL.nil ?_
    repeat refine AW.seq ?_
    refine AW.reg ?_
    iterate 3 refine AOL.s1 (h := ?_)
    refine AOL.nil ?_
    exact ⟨r.length, by simp only [List.length_cons]; omega, j + 1, r, O ++ [t.m0, t.m1], by rw [List.length_append]; rfl, hr1, hj3, rfl, lO2, hO2⟩
  obtain rfl := ends_nil hr (by simpa using c_)
  have hO : O = mks L := by rw [← hO]; exact (List.append_nil O).symm
  subst hO
  clear c_ hr hj lO
  repeat refine AW.seq ?_
  refine AW.exit ?_
  repeat (first | refine Kseq.ex ?_ | refine Kloop.ex ?_ | refine Kblock.miss (by decide) ?_)
  refine Kblock.hit ?_
  refine AW.kq [0, 1, 5, 6, 8] (h := ?_)
  refine AW.fz 1128 rfl (fun h => by cases h) (h := ?_)
  rw [show sub 0 ((mks L).length * 1) (fm u1 (mks L)) = fm u1 (mks L) from sub_all (by rw [fm_len u1_len]; omega)]
  have cMay := obolref16_May_c (V := mks L) (d := d) wM (by omega)
  have mz := may_0 (L := mks L) (d := d)
  generalize hV : mks L = V at *
  generalize mayH V d = bad at *
  repeat refine AW.seq ?_
  refine AW.reg ?_
  iterate 2 refine AOL.s1 (h := ?_)
  refine AOL.callD rfl (cMay) (by kernel_rfl) rfl rfl (h := ?_)
  iterate 1 refine AOL.s1 (h := ?_)
  refine AOL.nil ?_
  refine AW.kq [0, 1, 5, 6, 8, 10] (h := ?_)
  repeat refine AW.seq ?_
  refine AW.reg ?_
  iterate 2 refine AOL.s1 (h := ?_)
  refine AOL.nil ?_
  refine AW.kq [0, 1, 5, 6, 8, 10, 47] (h := ?_)
  repeat refine AW.seq ?_
  refine AW.cond rfl (fun c_ => ?_) (fun c_ => ?_)
  · have hb : bad ≠ 0 := by simpa using c_
    repeat refine AW.seq ?_
    refine AW.reg ?_
    iterate 4 refine AOL.s1 (h := ?_)
    refine AOL.nil ?_
    refine AW.kq [6, 7] (h := ?_)
    repeat refine AW.seq ?_
    refine AW.ret ?_
    refine ⟨_, [], rfl, HOk.nil _, ?_⟩
    exact frees_ge hb
  have hb : bad = 0 := by simpa using c_
  obtain ⟨hR, hl⟩ := mz hb
  clear mz hb c_ cMay
  rw [Int.toNat_natCast] at hl
  have hl2 : V.length ≤ 2 ^ d := by
    have e : (2:Int) ^ d = ((2 ^ d : Nat) : Int) := by simp
    rw [e] at hl; omega
  clear hl
  refine AW.skip ?_
  have cOw := obolref17_Owner_c w1
  have wo := twoH_l k 2
  generalize hown : twoH k 2 = own at *
  repeat refine AW.seq ?_
  refine AW.reg ?_
  iterate 2 refine AOL.s1 (h := ?_)
  refine AOL.callD rfl (cOw) (by kernel_rfl) rfl rfl (h := ?_)
  iterate 1 refine AOL.s1 (h := ?_)
  refine AOL.nil ?_
  refine AW.kq [0, 1, 5, 6, 8, 11] (h := ?_)
  repeat refine AW.seq ?_
  refine AW.reg ?_
  iterate 1 refine AOL.s1 (h := ?_)
  refine AOL.nil ?_
  refine AW.kq [0, 1, 5, 6, 8, 11, 12] (h := ?_)
  repeat refine AW.seq ?_
  refine AW.reg ?_
  iterate 8 refine AOL.s1 (h := ?_)
  refine AOL.nil ?_
  refine AW.kq [0, 1, 5, 6, 8, 11, 12, 60] (h := ?_)
  repeat refine AW.seq ?_
  refine AW.midK [0, 1, 5, 6, 8, 11, 12] (fun t => ∃ need : Int, t = ⟨204, [(0, i d), (1, slF txc L), (5, .ptr 1080 0), (6, .ptr 1096 0), (8, ul V), (11, u own), (12, u need)], [(1080, ⟨30, true, [u k, u inn, u fr, u sq, u ou, u tx, u ty, u pay, u ao, u px, u py, u d0, u d1, u d2, u d3, u d4, u d5, u d6, u d7]⟩), (1096, ⟨42, true, [u 0, u 0, u 0, u 0, u 0, u 0, u 0, u 0, i 0, .val (.slice none 0 0), u 0, u 0, u 0, u 0, i 0, .val (.slice none 0 0), u 0, u 0, u 0, u 0, u 0, u 0]⟩)]⟩ ∧ w64 need) ?_ ?_
  · refine AW.cond rfl (fun c_ => ?_) (fun c_ => ?_)
    · repeat refine AW.seq ?_
      refine AW.reg ?_
      iterate 9 refine AOL.s1 (h := ?_)
      refine AOL.nil ?_
      exact ⟨_, rfl, w64_wrap _⟩
    · refine AW.skip ?_
      exact ⟨_, rfl, w64_0⟩
  rintro t ⟨need, rfl, wn⟩
  have cSc := scan_f w1 hL
  have gS := scnF_good (k := k) (L := L)
  have lS := scnF_len k L
  rw [hV] at gS
  generalize scnF k L = X at *
  repeat refine AW.seq ?_
  refine AW.reg ?_
  iterate 3 refine AOL.s1 (h := ?_)
  refine AOL.callD rfl (cSc) (by kernel_rfl) rfl rfl (h := ?_)
  iterate 1 refine AOL.s1 (h := ?_)
  refine AOL.nil ?_
  refine AW.kq [0, 1, 5, 6, 8, 11, 12, 13] (h := ?_)
  have cPl := obollaw21_plan_c (L := X.map toH) (need := need) (by rw [List.length_map]; omega)
  have pl := planR_lt (L := X.map toH) (need := need)
  unfold hs at cPl
  rw [List.length_map, cells_fm] at cPl
  rw [List.length_map] at pl
  generalize planR (X.map toH) need = Pr at *
  obtain ⟨Pl, ok⟩ := Pr
  simp only at cPl pl
  repeat refine AW.seq ?_
  refine AW.reg ?_
  iterate 2 refine AOL.s1 (h := ?_)
  refine AOL.callD rfl (cPl) (by kernel_rfl) rfl rfl (h := ?_)
  iterate 5 refine AOL.s1 (h := ?_)
  refine AOL.nil ?_
  refine AW.kq [0, 1, 5, 6, 8, 11, 13, 14, 15] (h := ?_)
  repeat refine AW.seq ?_
  refine AW.reg ?_
  iterate 2 refine AOL.s1 (h := ?_)
  refine AOL.nil ?_
  refine AW.kq [0, 1, 5, 6, 8, 11, 13, 14, 80] (h := ?_)
  repeat refine AW.seq ?_
  refine AW.cond rfl (fun c_ => ?_) (fun c_ => ?_)
  · repeat refine AW.seq ?_
    refine AW.reg ?_
    iterate 3 refine AOL.s1 (h := ?_)
    refine AOL.nil ?_
    refine AW.kq [6, 7] (h := ?_)
    repeat refine AW.seq ?_
    refine AW.ret ?_
    refine ⟨_, [], rfl, HOk.nil _, ?_⟩
    exact frees_ge (by decide)
  refine AW.skip ?_
  have h2d : (0 + 1) * 2 ^ d ≤ 1099511627776 := by
    have : d = 1 ∨ d = 2 ∨ d = 3 := by omega
    rcases this with rfl | rfl | rfl <;> decide
  have cAt := obolref16_At_c wM (by omega) d 0 (by omega) h2d
  clear h2d
  have wr := atH_w wM d 0
  have hrR := atH_bw hR d 0
  have gU := fun (h : Hd) (p : Nat) (g : GoodH k V h p) => good_used (d := d) g w1 hkR wM hR hl2 hd3
  generalize atH V d 0 = root at *
  clear c_
  repeat refine AW.seq ?_
  refine AW.drw 9 [1256] (by kernel_rfl) (h := ?_)
  iterate 2 refine ADL.dm 1 (h := ?_)
  refine ADL.call rfl (cAt) (by kernel_rfl) rfl rfl (h := ?_)
  iterate 6 refine ADL.dm 1 (h := ?_)
  refine ADL.done hmix rfl rfl (hT := ?_)
  iterate 1 refine AOL.s1 (h := ?_)
  refine AOL.nil ?_
  refine AW.kq [0, 1, 5, 6, 8, 11, 13, 14, 16] (h := ?_)
  repeat refine AW.seq ?_
  refine AW.reg ?_
  iterate 3 refine AOL.s1 (h := ?_)
  refine AOL.nil ?_
  refine AW.kq [0, 1, 5, 6, 8, 11, 13, 14, 16, 17] (h := ?_)
  repeat refine AW.seq ?_
  refine AW.reg ?_
  iterate 1 refine AOL.s1 (h := ?_)
  refine AOL.nil ?_
  refine AW.kq [0, 1, 5, 6, 8, 11, 13, 14, 16, 17, 18] (h := ?_)
  clear hO
  repeat refine AW.seq ?_
  refine AW.block ?_
  repeat refine AW.seq ?_
  refine AW.rounds ?_
  refine AWin.next [0, 1, 5, 6, 8, 11, 13, 14, 16, 17, 18] (h := ?_)
  repeat refine AW.seq ?_
  refine AW.reg ?_
  iterate 2 refine AOL.s1 (h := ?_)
  refine AOL.nil ?_
  refine AW.kq [0, 1, 5, 6, 8, 11, 13, 14, 16, 17, 18, 93] (h := ?_)
  repeat refine AW.seq ?_
  refine AW.cond rfl (fun c_ => ?_) (fun c_ => ?_)
  rotate_left
  · cases c_
  refine AW.skip ?_
  repeat refine AW.seq ?_
  refine AW.block ?_
  repeat refine AW.seq ?_
  refine AW.reg ?_
  iterate 4 refine AOL.s1 (h := ?_)
  refine AOL.nil ?_
  refine AW.kq [0, 1, 5, 6, 8, 11, 13, 14, 16, 17, 18, 99] (h := ?_)
  repeat refine AW.seq ?_
  refine AW.midK [0, 1, 5, 6, 8, 11, 13, 14, 16, 17, 18] (fun t => ∃ x : Ip, t = ⟨204, [(0, i d), (1, slF txc L), (5, .ptr 1080 0), (6, .ptr 1096 0), (8, ul V), (11, u own), (13, .sl X.length (fm hdc X)), (14, slN Pl), (16, .ptr 1256 0), (17, u (inn + x.n.1)), (18, i 0)], [(1080, ⟨30, true, [u k, u inn, u fr, u sq, u ou, u tx, u ty, u pay, u ao, u px, u py, u d0, u d1, u d2, u d3, u d4, u d5, u d6, u d7]⟩), (1096, ⟨42, true, [u 0, u 0, u 0, u 0, u 0, u 0, u 0, u 0, i 0, .val (.slice none 0 0), u 0, u 0, u 0, u 0, i 0, .val (.slice none 0 0), u 0, u 0, u 0, u 0, u 0, u 0]⟩), (1256, ⟨42, true, [u root, u inn, u ou, u 0, u x.k, u x.n.1, u x.n.2.1, u x.n.2.2, i x.a, ul x.p, u 0, u 0, u 0, u 0, i 0, .val (.slice none 0 0), u 0, u 0, u 0, u 0, u 0, u 0]⟩)]⟩ ∧ GoodI d k root x ∧ x.k = k) ?_ ?_
  · refine AW.cond rfl (fun e_ => ?_) (fun e_ => ?_)
    · have e1 : 0 < Pl.length := by simp at e_; omega
      have e2 : (0:Int) < (Pl.length:Int) := by omega
      obtain ⟨q, hq⟩ : ∃ q, Pl[0]? = some q := ⟨Pl[0], List.getElem?_eq_getElem e1⟩
      have hqX := pl.2 q (List.mem_of_getElem? hq)
      have ia := ic_at hq
      have ih : (ic (Pl.drop 0)).head? = some (i q) := by
        have : Pl.drop 0 = q :: Pl.drop (0 + 1) := by rw [List.drop_eq_getElem_cons e1]; congr 1; have := List.getElem?_eq_getElem e1; rw [hq] at this; exact (Option.some.inj this).symm
        rw [this]; rfl
      try rw [List.drop_zero] at ih
      obtain ⟨h, hh⟩ : ∃ h, X.drop q = h :: X.drop (q + 1) := ⟨X[q], List.drop_eq_getElem_cons hqX⟩
      have hx := hd_at hh
      obtain ⟨p, g⟩ := gS h (by have := List.mem_of_mem_drop (i := q) (l := X) (a := h) (by rw [hh]; exact List.mem_cons_self); exact this)
      have gi := gU h p g
      have q0' : (0:Int) ≤ (q:Int) := by omega
      have q1' : (q:Int) < (X.length:Int) := by omega
      have hp24 : p < 1000 := by have := g.lt; omega
      have cPa := path_f (L := V) (d := d) (a := p) wM (by omega) hd3 hp24
      have hv := gi.val
      obtain ⟨⟨nv, no, nr⟩, na, ns⟩ := h
      have hna : na = (p:Int) := g.at_
      subst hna
      simp only at hv gi
      have lft : IntKind.u64.wrap (inn + nv) = inn + nv := wrapU_o (by omega) (by omega)
      have lp := pathS_len V p d
      clear hq hh g e_ gS
      repeat refine AW.seq ?_
      refine AW.reg ?_
      iterate 9 refine AOL.s1 (h := ?_)
      refine AOL.nil ?_
      refine AW.kq [0, 1, 5, 6, 8, 11, 13, 14, 16, 17, 18, 19] (h := ?_)
      repeat refine AW.seq ?_
      refine AW.drw 14 [] (by kernel_rfl) (h := ?_)
      iterate 11 refine ADL.dm 1 (h := ?_)
      refine ADL.call rfl (cPa) (by kernel_rfl) rfl rfl (h := ?_)
      iterate 2 refine ADL.dm 1 (h := ?_)
      refine ADL.done hmix rfl rfl (hT := ?_)
      iterate 2 refine AOL.s1 (h := ?_)
      refine AOL.nil ?_
      refine AW.kq [0, 1, 5, 6, 8, 11, 13, 14, 16, 17, 18, 19] (h := ?_)
      repeat refine AW.seq ?_
      refine AW.reg ?_
      iterate 6 refine AOL.s1 (h := ?_)
      refine AOL.let 1304 (h := ?_)
      refine AOL.nil ?_
      exact ⟨⟨k, (nv, no, nr), p, pathS V p d⟩, by rw [show ul (pathS V p d) = .sl d (fm u1 (pathS V p d)) from by show AV.sl _ _ = _; rw [lp]]; rfl, gi, rfl⟩
    · have cPs := obolref07_Plus_c (a := d6) (b := 0) v6 (by decide)
      have gn := good_none (k := k) (o := own) (rho := rAdd d6 0) (root := root) (d := d) w1 hkR hown.symm (rAdd_l _ _).w (rAdd_l _ _).2 hd3
      have mk := cmkU (n := d) (by omega)
      clear e_
      repeat refine AW.seq ?_
      refine AW.drw 15 [3224] (by kernel_rfl) (h := ?_)
      iterate 9 refine ADL.dm 1 (h := ?_)
      refine ADL.call rfl (cPs) (by kernel_rfl) rfl rfl (h := ?_)
      iterate 5 refine ADL.dm 1 (h := ?_)
      refine ADL.done hmix rfl rfl (hT := ?_)
      iterate 2 refine AOL.s1 (h := ?_)
      refine AOL.fz 3224 rfl (fun h => by cases h) (h := ?_)
      refine AOL.nil ?_
      rw [show sub 0 (d * 1) (List.replicate d (u 0)) = fm u1 (List.replicate d 0) from by rw [sub_all (by rw [List.length_replicate]; omega), u_rep]]
      exact ⟨⟨k, (0, own, rAdd d6 0), 0, List.replicate d 0⟩, by rw [show ul (List.replicate d 0) = .sl d (fm u1 (List.replicate d 0)) from by show AV.sl _ _ = _; rw [List.length_replicate], Int.add_zero]; rfl, gn, rfl⟩
  rintro t ⟨x, rfl, gx, kx⟩
  have vx := gx.val
  replace kx : id (x.k = k) := kx
  repeat refine AW.seq ?_
  refine AW.reg ?_
  iterate 3 refine AOL.s1 (h := ?_)
  refine AOL.nil ?_
  refine AWin.next [0, 1, 5, 6, 8, 11, 13, 14, 16, 17, 18] (h := ?_)
  repeat refine AW.seq ?_
  refine AW.reg ?_
  iterate 2 refine AOL.s1 (h := ?_)
  refine AOL.nil ?_
  refine AW.kq [0, 1, 5, 6, 8, 11, 13, 14, 16, 17, 18, 93] (h := ?_)
  repeat refine AW.seq ?_
  refine AW.cond rfl (fun c_ => ?_) (fun c_ => ?_)
  rotate_left
  · cases c_
  refine AW.skip ?_
  repeat refine AW.seq ?_
  refine AW.block ?_
  repeat refine AW.seq ?_
  refine AW.reg ?_
  iterate 4 refine AOL.s1 (h := ?_)
  refine AOL.nil ?_
  refine AW.kq [0, 1, 5, 6, 8, 11, 13, 14, 16, 17, 18, 99] (h := ?_)
  repeat refine AW.seq ?_
  refine AW.midK [0, 1, 5, 6, 8, 11, 13, 14, 16, 17, 18] (fun t => ∃ y : Ip, t = ⟨204, [(0, i d), (1, slF txc L), (5, .ptr 1080 0), (6, .ptr 1096 0), (8, ul V), (11, u own), (13, .sl X.length (fm hdc X)), (14, slN Pl), (16, .ptr 1256 0), (17, u (inn + x.n.1 + y.n.1)), (18, i 1)], [(1080, ⟨30, true, [u k, u inn, u fr, u sq, u ou, u tx, u ty, u pay, u ao, u px, u py, u d0, u d1, u d2, u d3, u d4, u d5, u d6, u d7]⟩), (1096, ⟨42, true, [u 0, u 0, u 0, u 0, u 0, u 0, u 0, u 0, i 0, .val (.slice none 0 0), u 0, u 0, u 0, u 0, i 0, .val (.slice none 0 0), u 0, u 0, u 0, u 0, u 0, u 0]⟩), (1256, ⟨42, true, [u root, u inn, u ou, u 0, u x.k, u x.n.1, u x.n.2.1, u x.n.2.2, i x.a, ul x.p, u y.k, u y.n.1, u y.n.2.1, u y.n.2.2, i y.a, ul y.p, u 0, u 0, u 0, u 0, u 0, u 0]⟩)]⟩ ∧ GoodI d k root y ∧ y.k = k) ?_ ?_
  · refine AW.cond rfl (fun e_ => ?_) (fun e_ => ?_)
    · have e1 : 1 < Pl.length := by simp at e_; omega
      have e2 : (1:Int) < (Pl.length:Int) := by omega
      obtain ⟨q, hq⟩ : ∃ q, Pl[1]? = some q := ⟨Pl[1], List.getElem?_eq_getElem e1⟩
      have hqX := pl.2 q (List.mem_of_getElem? hq)
      have ia := ic_at hq
      have ih : (ic (Pl.drop 1)).head? = some (i q) := by
        have : Pl.drop 1 = q :: Pl.drop (1 + 1) := by rw [List.drop_eq_getElem_cons e1]; congr 1; have := List.getElem?_eq_getElem e1; rw [hq] at this; exact (Option.some.inj this).symm
        rw [this]; rfl
      try rw [List.drop_zero] at ih
      obtain ⟨h, hh⟩ : ∃ h, X.drop q = h :: X.drop (q + 1) := ⟨X[q], List.drop_eq_getElem_cons hqX⟩
      have hx := hd_at hh
      obtain ⟨p, g⟩ := gS h (by have := List.mem_of_mem_drop (i := q) (l := X) (a := h) (by rw [hh]; exact List.mem_cons_self); exact this)
      have gi := gU h p g
      have q0' : (0:Int) ≤ (q:Int) := by omega
      have q1' : (q:Int) < (X.length:Int) := by omega
      have hp24 : p < 1000 := by have := g.lt; omega
      have cPa := path_f (L := V) (d := d) (a := p) wM (by omega) hd3 hp24
      have hv := gi.val
      obtain ⟨⟨nv, no, nr⟩, na, ns⟩ := h
      have hna : na = (p:Int) := g.at_
      subst hna
      simp only at hv gi
      have lft : IntKind.u64.wrap (inn + x.n.1 + nv) = inn + x.n.1 + nv := wrapU_o (by have := vx; omega) (by have := vx; omega)
      have lp := pathS_len V p d
      clear hq hh g e_ gS
      repeat refine AW.seq ?_
      refine AW.reg ?_
      iterate 9 refine AOL.s1 (h := ?_)
      refine AOL.nil ?_
      refine AW.kq [0, 1, 5, 6, 8, 11, 13, 14, 16, 17, 18, 19] (h := ?_)
      repeat refine AW.seq ?_
      refine AW.drw 14 [] (by kernel_rfl) (h := ?_)
      iterate 11 refine ADL.dm 1 (h := ?_)
      refine ADL.call rfl (cPa) (by kernel_rfl) rfl rfl (h := ?_)
      iterate 2 refine ADL.dm 1 (h := ?_)
      refine ADL.done hmix rfl rfl (hT := ?_)
      iterate 2 refine AOL.s1 (h := ?_)
      refine AOL.nil ?_
      refine AW.kq [0, 1, 5, 6, 8, 11, 13, 14, 16, 17, 18, 19] (h := ?_)
      repeat refine AW.seq ?_
      refine AW.reg ?_
      iterate 6 refine AOL.s1 (h := ?_)
      refine AOL.let 1304 (h := ?_)
      refine AOL.nil ?_
      exact ⟨⟨k, (nv, no, nr), p, pathS V p d⟩, by rw [show ul (pathS V p d) = .sl d (fm u1 (pathS V p d)) from by show AV.sl _ _ = _; rw [lp]]; rfl, gi, rfl⟩
    · have cPs := obolref07_Plus_c (a := d6) (b := 1) v6 (by decide)
      have gn := good_none (k := k) (o := own) (rho := rAdd d6 1) (root := root) (d := d) w1 hkR hown.symm (rAdd_l _ _).w (rAdd_l _ _).2 hd3
      have mk := cmkU (n := d) (by omega)
      clear e_
      repeat refine AW.seq ?_
      refine AW.drw 15 [3224] (by kernel_rfl) (h := ?_)
      iterate 9 refine ADL.dm 1 (h := ?_)
      refine ADL.call rfl (cPs) (by kernel_rfl) rfl rfl (h := ?_)
      iterate 5 refine ADL.dm 1 (h := ?_)
      refine ADL.done hmix rfl rfl (hT := ?_)
      iterate 2 refine AOL.s1 (h := ?_)
      refine AOL.fz 3224 rfl (fun h => by cases h) (h := ?_)
      refine AOL.nil ?_
      rw [show sub 0 (d * 1) (List.replicate d (u 0)) = fm u1 (List.replicate d 0) from by rw [sub_all (by rw [List.length_replicate]; omega), u_rep]]
      exact ⟨⟨k, (0, own, rAdd d6 1), 0, List.replicate d 0⟩, by rw [show ul (List.replicate d 0) = .sl d (fm u1 (List.replicate d 0)) from by show AV.sl _ _ = _; rw [List.length_replicate], Int.add_zero]; rfl, gn, rfl⟩
  rintro t ⟨y, rfl, gy, ky⟩
  have vy := gy.val
  replace ky : id (y.k = k) := ky
  repeat refine AW.seq ?_
  refine AW.reg ?_
  iterate 3 refine AOL.s1 (h := ?_)
  refine AOL.nil ?_
  refine AWin.next [0, 1, 5, 6, 8, 11, 13, 14, 16, 17, 18] (h := ?_)
  repeat refine AW.seq ?_
  refine AW.reg ?_
  iterate 2 refine AOL.s1 (h := ?_)
  refine AOL.nil ?_
  refine AW.kq [0, 1, 5, 6, 8, 11, 13, 14, 16, 17, 18, 93] (h := ?_)
  repeat refine AW.seq ?_
  refine AW.cond rfl (fun c_ => ?_) (fun c_ => ?_)
  · cases c_
  repeat refine AW.seq ?_
  refine AW.exit ?_
  repeat (first | refine Kseq.ex ?_ | refine Kloop.ex ?_ | refine Kblock.miss (by decide) ?_)
  refine Kblock.hit ?_
  refine AW.kq [1, 5, 6, 11, 13, 16, 17] (h := ?_)
  repeat refine AW.seq ?_
  refine AW.reg ?_
  iterate 8 refine AOL.s1 (h := ?_)
  refine AOL.nil ?_
  refine AW.kq [1, 5, 6, 11, 13, 16, 17] (h := ?_)
  have lw : 0 ≤ IntKind.u64.wrap (IntKind.u64.wrap (inn + x.n.1 + y.n.1 - ou) - pay) := (w64_wrap _).1
  have ls : IntKind.u64.wrap (IntKind.u64.wrap (inn + x.n.1 + y.n.1 - ou) - pay) < 4294967296 → inn + x.n.1 + y.n.1 = ou + pay + IntKind.u64.wrap (IntKind.u64.wrap (inn + x.n.1 + y.n.1 - ou) - pay) := by
    intro h
    rw [wu64, wu64] at *
    omega
  generalize IntKind.u64.wrap (IntKind.u64.wrap (inn + x.n.1 + y.n.1 - ou) - pay) = left at *
  repeat refine AW.seq ?_
  refine AW.reg ?_
  iterate 2 refine AOL.s1 (h := ?_)
  refine AOL.nil ?_
  refine AW.kq [1, 5, 6, 11, 13, 16, 17, 151] (h := ?_)
  repeat refine AW.seq ?_
  refine AW.cond rfl (fun c_ => ?_) (fun c_ => ?_)
  · repeat refine AW.seq ?_
    refine AW.reg ?_
    iterate 3 refine AOL.s1 (h := ?_)
    refine AOL.nil ?_
    refine AW.kq [6, 7] (h := ?_)
    repeat refine AW.seq ?_
    refine AW.ret ?_
    refine ⟨_, [], rfl, HOk.nil _, ?_⟩
    exact frees_ge (by decide)
  have ll : left < 4294967296 := by simp at c_; omega
  have ls := ls ll
  have gm := good_move (r0 := d0) (r1 := d1) hd hd3 gx gy kx wr hrR hi ho hp ⟨lw, ll⟩ w8 haR v0 h0R v1 h1R ls
  rw [hown] at gm
  have gw := gm.1
  clear ls c_ pl gU
  refine AW.skip ?_
  repeat refine AW.seq ?_
  refine AW.reg ?_
  iterate 12 refine AOL.s1 (h := ?_)
  refine AOL.nil ?_
  refine AW.kq [1, 5, 6, 11, 13, 16, 17] (h := ?_)
  repeat refine AW.seq ?_
  refine AW.reg ?_
  iterate 9 refine AOL.s1 (h := ?_)
  refine AOL.nil ?_
  refine AW.kq [1, 6, 11, 13, 16] (h := ?_)
  refine AW.let 1080 (h := ?_)
  repeat refine AW.seq ?_
  refine AW.reg ?_
  iterate 1 refine AOL.s1 (h := ?_)
  refine AOL.nil ?_
  refine AW.kq [1, 6, 11, 13, 16, 20] (h := ?_)
  repeat refine AW.seq ?_
  refine AW.block ?_
  repeat refine AW.seq ?_
  refine AW.rounds ?_
  refine AWin.next [1, 6, 11, 13, 16, 20] (h := ?_)
  repeat refine AW.seq ?_
  refine AW.reg ?_
  iterate 2 refine AOL.s1 (h := ?_)
  refine AOL.nil ?_
  refine AW.kq [1, 6, 11, 13, 16, 20, 173] (h := ?_)
  repeat refine AW.seq ?_
  refine AW.cond rfl (fun c_ => ?_) (fun c_ => ?_)
  rotate_left
  · cases c_
  have cEn := obolref18_End_c (x := x) gx.w.1 gx.w.2.1.2.2 ⟨gx.a0, gx.w.2.2.1⟩
  generalize endH x = enx at *
  have cE := obollaw21_ended_c (L := L) (e := enx) (by omega)
  have cOn := obollaw21_owned_c (L := X) (m := ⟨root, inn, ou, 0, x, y, (pay, ao, d0), (left, own, d1)⟩) (c := L.length) (own := own) (e := enx) (by omega) (fun h hh => by obtain ⟨p, g⟩ := gS h hh; have := g.lt; exact ⟨g.w, by rw [g.at_]; omega, by rw [g.at_]; omega⟩) gw (by omega)
  refine AW.skip ?_
  repeat refine AW.seq ?_
  refine AW.block ?_
  repeat refine AW.seq ?_
  refine AW.reg ?_
  iterate 4 refine AOL.s1 (h := ?_)
  refine AOL.callD rfl (cEn) (by kernel_rfl) rfl rfl (h := ?_)
  iterate 1 refine AOL.s1 (h := ?_)
  refine AOL.nil ?_
  refine AW.kq [1, 6, 11, 13, 16, 20, 21] (h := ?_)
  repeat refine AW.seq ?_
  refine AW.midK [1, 6, 11, 13, 16, 20, 201] (fun t => ∃ bb : Bool, t = ⟨204, [(1, slF txc L), (6, .ptr 1096 0), (11, u own), (13, .sl X.length (fm hdc X)), (16, .ptr 1256 0), (20, i 0), (201, bo bb)], [(1096, ⟨42, true, [u 0, u 0, u 0, u 0, u 0, u 0, u 0, u 0, i 0, .val (.slice none 0 0), u 0, u 0, u 0, u 0, i 0, .val (.slice none 0 0), u 0, u 0, u 0, u 0, u 0, u 0]⟩), (1256, ⟨42, true, [u root, u inn, u ou, u 0, u x.k, u x.n.1, u x.n.2.1, u x.n.2.2, i x.a, ul x.p, u y.k, u y.n.1, u y.n.2.1, u y.n.2.2, i y.a, ul y.p, u pay, u ao, u d0, u left, u own, u d1]⟩)]⟩) ?_ ?_
  · cases g1 : endedH L enx with
    | true =>
      rw [g1] at cE
      clear g1
      refine AW.reg ?_
      iterate 2 refine AOL.s1 (h := ?_)
      refine AOL.callD rfl (cE) (by kernel_rfl) rfl rfl (h := ?_)
      iterate 18 refine AOL.s1 (h := ?_)
      refine AOL.nil ?_
      exact ⟨_, rfl⟩
    | false =>
      rw [g1] at cE
      clear g1
      cases g2 : (x.n.1 == 0) with
      | false =>
        refine AW.reg ?_
        iterate 2 refine AOL.s1 (h := ?_)
        refine AOL.callD rfl (cE) (by kernel_rfl) rfl rfl (h := ?_)
        iterate 18 refine AOL.s1 (h := ?_)
        refine AOL.nil ?_
        exact ⟨_, rfl⟩
      | true =>
        refine AW.reg ?_
        iterate 2 refine AOL.s1 (h := ?_)
        refine AOL.callD rfl (cE) (by kernel_rfl) rfl rfl (h := ?_)
        iterate 15 refine AOL.s1 (h := ?_)
        refine AOL.callD rfl (cOn) (by kernel_rfl) rfl rfl (h := ?_)
        iterate 2 refine AOL.s1 (h := ?_)
        refine AOL.nil ?_
        exact ⟨_, rfl⟩
  rintro t ⟨bb, rfl⟩
  clear cE cOn cEn
  repeat refine AW.seq ?_
  refine AW.cond rfl (fun c_ => ?_) (fun c_ => ?_)
  · repeat refine AW.seq ?_
    refine AW.reg ?_
    iterate 3 refine AOL.s1 (h := ?_)
    refine AOL.nil ?_
    refine AW.kq [6, 7] (h := ?_)
    repeat refine AW.seq ?_
    refine AW.ret ?_
    refine ⟨_, [], rfl, HOk.nil _, ?_⟩
    exact frees_ge (by decide)
  refine AW.skip ?_
  clear c_
  repeat refine AW.seq ?_
  refine AW.reg ?_
  iterate 3 refine AOL.s1 (h := ?_)
  refine AOL.nil ?_
  refine AWin.next [1, 6, 11, 13, 16, 20] (h := ?_)
  repeat refine AW.seq ?_
  refine AW.reg ?_
  iterate 2 refine AOL.s1 (h := ?_)
  refine AOL.nil ?_
  refine AW.kq [1, 6, 11, 13, 16, 20, 173] (h := ?_)
  repeat refine AW.seq ?_
  refine AW.cond rfl (fun c_ => ?_) (fun c_ => ?_)
  rotate_left
  · cases c_
  have cEn := obolref18_End_c (x := y) gy.w.1 gy.w.2.1.2.2 ⟨gy.a0, gy.w.2.2.1⟩
  generalize endH y = eny at *
  have cE := obollaw21_ended_c (L := L) (e := eny) (by omega)
  have cOn := obollaw21_owned_c (L := X) (m := ⟨root, inn, ou, 0, x, y, (pay, ao, d0), (left, own, d1)⟩) (c := L.length) (own := own) (e := eny) (by omega) (fun h hh => by obtain ⟨p, g⟩ := gS h hh; have := g.lt; exact ⟨g.w, by rw [g.at_]; omega, by rw [g.at_]; omega⟩) gw (by omega)
  refine AW.skip ?_
  repeat refine AW.seq ?_
  refine AW.block ?_
  repeat refine AW.seq ?_
  refine AW.reg ?_
  iterate 4 refine AOL.s1 (h := ?_)
  refine AOL.callD rfl (cEn) (by kernel_rfl) rfl rfl (h := ?_)
  iterate 1 refine AOL.s1 (h := ?_)
  refine AOL.nil ?_
  refine AW.kq [1, 6, 11, 13, 16, 20, 21] (h := ?_)
  repeat refine AW.seq ?_
  refine AW.midK [1, 6, 11, 13, 16, 20, 201] (fun t => ∃ bb : Bool, t = ⟨204, [(1, slF txc L), (6, .ptr 1096 0), (11, u own), (13, .sl X.length (fm hdc X)), (16, .ptr 1256 0), (20, i 1), (201, bo bb)], [(1096, ⟨42, true, [u 0, u 0, u 0, u 0, u 0, u 0, u 0, u 0, i 0, .val (.slice none 0 0), u 0, u 0, u 0, u 0, i 0, .val (.slice none 0 0), u 0, u 0, u 0, u 0, u 0, u 0]⟩), (1256, ⟨42, true, [u root, u inn, u ou, u 0, u x.k, u x.n.1, u x.n.2.1, u x.n.2.2, i x.a, ul x.p, u y.k, u y.n.1, u y.n.2.1, u y.n.2.2, i y.a, ul y.p, u pay, u ao, u d0, u left, u own, u d1]⟩)]⟩) ?_ ?_
  · cases g1 : endedH L eny with
    | true =>
      rw [g1] at cE
      clear g1
      refine AW.reg ?_
      iterate 2 refine AOL.s1 (h := ?_)
      refine AOL.callD rfl (cE) (by kernel_rfl) rfl rfl (h := ?_)
      iterate 18 refine AOL.s1 (h := ?_)
      refine AOL.nil ?_
      exact ⟨_, rfl⟩
    | false =>
      rw [g1] at cE
      clear g1
      cases g2 : (y.n.1 == 0) with
      | false =>
        refine AW.reg ?_
        iterate 2 refine AOL.s1 (h := ?_)
        refine AOL.callD rfl (cE) (by kernel_rfl) rfl rfl (h := ?_)
        iterate 18 refine AOL.s1 (h := ?_)
        refine AOL.nil ?_
        exact ⟨_, rfl⟩
      | true =>
        refine AW.reg ?_
        iterate 2 refine AOL.s1 (h := ?_)
        refine AOL.callD rfl (cE) (by kernel_rfl) rfl rfl (h := ?_)
        iterate 15 refine AOL.s1 (h := ?_)
        refine AOL.callD rfl (cOn) (by kernel_rfl) rfl rfl (h := ?_)
        iterate 2 refine AOL.s1 (h := ?_)
        refine AOL.nil ?_
        exact ⟨_, rfl⟩
  rintro t ⟨bb, rfl⟩
  clear cE cOn cEn
  repeat refine AW.seq ?_
  refine AW.cond rfl (fun c_ => ?_) (fun c_ => ?_)
  · repeat refine AW.seq ?_
    refine AW.reg ?_
    iterate 3 refine AOL.s1 (h := ?_)
    refine AOL.nil ?_
    refine AW.kq [6, 7] (h := ?_)
    repeat refine AW.seq ?_
    refine AW.ret ?_
    refine ⟨_, [], rfl, HOk.nil _, ?_⟩
    exact frees_ge (by decide)
  refine AW.skip ?_
  clear c_
  repeat refine AW.seq ?_
  refine AW.reg ?_
  iterate 3 refine AOL.s1 (h := ?_)
  refine AOL.nil ?_
  refine AWin.next [1, 6, 11, 13, 16, 20] (h := ?_)
  repeat refine AW.seq ?_
  refine AW.reg ?_
  iterate 2 refine AOL.s1 (h := ?_)
  refine AOL.nil ?_
  refine AW.kq [1, 6, 11, 13, 16, 20, 173] (h := ?_)
  repeat refine AW.seq ?_
  refine AW.cond rfl (fun c_ => ?_) (fun c_ => ?_)
  · cases c_
  repeat refine AW.seq ?_
  refine AW.exit ?_
  repeat (first | refine Kseq.ex ?_ | refine Kloop.ex ?_ | refine Kblock.miss (by decide) ?_)
  refine Kblock.hit ?_
  refine AW.kq [6, 16] (h := ?_)
  repeat refine AW.seq ?_
  refine AW.reg ?_
  iterate 3 refine AOL.s1 (h := ?_)
  refine AOL.nil ?_
  refine AW.kq [6, 7] (h := ?_)
  repeat refine AW.seq ?_
  refine AW.ret ?_
  refine ⟨_, [], rfl, HOk.nil _, ?_⟩
  exact .inr ⟨_, rfl, gm⟩
end Go.Proofs.Ythajlelljnkdiaa.E.M

