/- obolref06.rest: a contract over E. -/
import Derived.Test.YthajlelljnkdiaaDgb
import Derived.Test.YthajlelljnkdiaaProg
import Derived.KernelRfl
set_option linter.unusedVariables false
set_option linter.unusedSimpArgs false
set_option maxRecDepth 10000
open Go Go.Proofs.Ythajlelljnkdiaa.E Go.Proofs
namespace Go.Proofs.Ythajlelljnkdiaa.E.M
theorem carried_f {L : List Int} {n : Nat} (hL : ∀ v ∈ L, 0 ≤ v ∧ v ≤ 1099511627776) (lL : L.length < 1000000) (hn : n ≤ 1000) : Fn Try.prog 62 [sl64 L, i n] [] (fun r _ => r = .sl n (a64 (cr n 0 L))) := by
  have h := (obolref06_carried_c hL lL hn).frozen (a64_free _)
  have e : frz 1000 (a64 (cr n 0 L)) (.ref 1000 0 n 1) = .sl n (a64 (cr n 0 L)) := by
    simp only [frz, if_true]
    rw [sub_all (by rw [a64_len, cr_len]; omega)]
  rwa [e] at h
set_option maxHeartbeats 16000000 in
theorem obolref06_rest_c {p : List Int} (hp : ∀ v ∈ p, 0 ≤ v ∧ v ≤ 1099511627776) (lp : p.length ≤ 40) (hv : vl p < 256 ^ 40) : Fn Try.prog 61 [sl64 p] [] (Tells (.ref 1000 0 17 1) [(1000, k64 (rstF p))]) := by
  refine Fn.enter Try.func61 Try.ntmps61 rfl (h := ?_)
  have tf := tfk
  have ot_ : (false || true) = true := rfl
  have mk : ∀ st d, aMake Try.prog st d 50 24 24 = some (.ref (lab d) 0 24 1, st.new (lab d) (k64 (List.replicate 24 0))) := mkI (n := 24) (by omega)
  have al : ∀ V, (a64 V).length = V.length := a64_len
  have sl : ∀ V k v, (a64 V).set k (c64 v) = a64 (V.set k v) := a64_set
  have dl : ∀ (V : List Int) (k : Nat), k < V.length → (a64 V).drop k = c64 (at_ V k) :: a64 (V.drop (k + 1)) := fun V k h => a64_at h
  have ls : ∀ (V : List Int) (k : Nat) (v : Int), (V.set k v).length = V.length := fun V k v => List.length_set
  have t16 : Int.toNat 16 = 16 := rfl
  have t0 : Int.toNat 0 = 0 := rfl
  have z16 : (0:Int) ≤ 16 := by decide
  have y16 : (16:Int) < ((17:Nat):Int) := by decide
  have y0 : (0:Int) < ((17:Nat):Int) := by decide
  have z0 : (0:Int) ≤ 0 := by decide
  have c1 := carried_f (L := p) (n := 40) hp (by omega) (by omega)
  have v0 := cr_vl 40 0 p (by omega) (fun v h => (hp v h).1) lp (by omega)
  rw [Int.zero_add] at v0
  have lX := cr_len 40 0 p
  have dX := cr_dig 40 0 p
  generalize cr 40 0 p = X0 at *
  replace v0 : id (vl X0 = vl p) := v0
  repeat refine AW.seq ?_
  refine AW.reg ?_
  iterate 1 refine AOL.s1 (h := ?_)
  refine AOL.nil ?_
  refine AW.kq [0] (h := ?_)
  repeat refine AW.seq ?_
  refine AW.reg ?_
  iterate 1 refine AOL.s1 (h := ?_)
  refine AOL.callD rfl (c1) (by kernel_rfl) rfl rfl (h := ?_)
  iterate 1 refine AOL.s1 (h := ?_)
  refine AOL.nil ?_
  refine AW.kq [3] (h := ?_)
  repeat refine AW.seq ?_
  refine AW.block ?_
  repeat refine AW.seq ?_
  clear c1
  refine AW.loopK [3] (fun n' s => ∃ X : List Int, s = ⟨111, [(3, .sl 40 (a64 X))], []⟩ ∧ X.length = 40 ∧ dig X ∧ id (vl X % P130 = vl p % P130) ∧ n' = (vl X).toNat) ((vl X0).toNat) ?_ ?_
  · exact ⟨X0, rfl, lX, dX, by show _ = _; rw [show vl X0 = vl p from v0], rfl⟩
  rintro n' s ⟨X, rfl, lX, dX, hm, rfl⟩
  clear v0
  repeat refine AW.seq ?_
  refine AW.block ?_
  repeat refine AW.seq ?_
  refine AW.reg ?_
  iterate 2 refine AOL.s1 (h := ?_)
  refine AOL.nil ?_
  refine AW.kq [3, 4] (h := ?_)
  repeat refine AW.seq ?_
  refine AW.reg ?_
  iterate 1 refine AOL.s1 (h := ?_)
  refine AOL.nil ?_
  refine AW.kq [3, 4, 5] (h := ?_)
  repeat refine AW.seq ?_
  refine AW.reg ?_
  iterate 1 refine AOL.s1 (h := ?_)
  refine AOL.nil ?_
  refine AW.kq [3, 4, 5, 6] (h := ?_)
  repeat refine AW.seq ?_
  refine AW.block ?_
  repeat refine AW.seq ?_
  refine AW.loopK [3, 4, 5, 6] (fun n' s => ∃ (j : Nat), s = ⟨111, [(3, .sl 40 (a64 X)), (4, .ref 1192 0 24 1), (5, bo (((HI X).take j).any fun v => decide (v > 0))), (6, i j)], [(1192, k64 ((HI X).take j ++ List.replicate (24 - j) 0))]⟩ ∧ j + n' = 24) (24) ?_ ?_
  · exact ⟨0, rfl, rfl⟩
  rintro n' s ⟨j, rfl, hj⟩
  have lH := HI_len lX
  repeat refine AW.seq ?_
  refine AW.reg ?_
  iterate 2 refine AOL.s1 (h := ?_)
  refine AOL.nil ?_
  refine AW.kq [3, 4, 5, 6, 14] (h := ?_)
  repeat refine AW.seq ?_
  refine AW.cond rfl (fun c_ => ?_) (fun c_ => ?_)
  · have j1 : j < 24 := by simp at c_; omega
    obtain ⟨m, rfl⟩ : ∃ m, n' = m + 1 := ⟨n' - 1, by omega⟩
    have k2 : IntKind.i64.wrap ((j : Int) + 1) = ((j + 1 : Nat) : Int) := by rw [wrapI_o (by omega) (by omega)]; omega
    have k3 : IntKind.i64.wrap (16 + (j : Int)) = ((16 + j : Nat) : Int) := by rw [wrapI_o (by omega) (by omega)]; omega
    have k4 : IntKind.i64.wrap (17 + (j : Int)) = ((17 + j : Nat) : Int) := by rw [wrapI_o (by omega) (by omega)]; omega
    have j0 : (0:Int) ≤ j := by omega
    have j2 : (j:Int) < ((24:Nat):Int) := by omega
    have j3 : (0:Int) ≤ ((16 + j : Nat):Int) := by omega
    have j4 : ((16 + j : Nat):Int) < ((40:Nat):Int) := by omega
    have j5 : 16 + j < 40 := by omega
    have j6 : j + 1 ≤ 24 := by omega
    have j9 : j < 24 := by omega
    have j10 : j ≤ 23 := by omega
    have lO : ((HI X).take j ++ List.replicate (24 - j) (0:Int)).length = 24 := by rw [List.length_append, List.length_take, List.length_replicate, lH]; omega
    have ha := dig_at dX (16 + j)
    have hb := dig_at dX (17 + j)
    have w1 : Int.tdiv (at_ X (16 + j)) 4 = at_ X (16 + j) / 4 := tdiv_nn (by omega)
    have w2 : IntKind.i64.wrap (at_ X (16 + j) / 4) = at_ X (16 + j) / 4 := wrapI_o (by omega) (by omega)
    have hq := qt_at (X.drop 16) j (by rw [List.length_drop]; omega)
    rw [at_drop, at_drop, show 16 + (j + 1) = 17 + j by omega] at hq
    have fs := fill_set (HI X) (n := 24) (j := j) lH j1
    have an := any_snoc (H := HI X) (j := j) (by omega)
    replace an : id (_ = _) := an
    clear c_
    refine AW.skip ?_
    repeat refine AW.seq ?_
    refine AW.block ?_
    repeat refine AW.seq ?_
    refine AW.reg ?_
    iterate 10 refine AOL.s1 (h := ?_)
    refine AOL.nil ?_
    refine AW.kq [3, 4, 5, 6] (h := ?_)
    generalize hO : ((HI X).take j ++ List.replicate (24 - j) (0:Int)) = O at *
    have lO2 : (O.set j (at_ X (16 + j) / 4)).length = 24 := by rw [ls, lO]
    have aO := at_set (L := O) (j := j) (at_ X (16 + j) / 4) (by omega)
    have sO : ∀ v, (O.set j (at_ X (16 + j) / 4)).set j v = O.set j v := fun v => List.set_set ..
    generalize hO2 : O.set j (at_ X (16 + j) / 4) = O2 at *
    repeat refine AW.seq ?_
    refine AW.reg ?_
    iterate 2 refine AOL.s1 (h := ?_)
    refine AOL.nil ?_
    refine AW.kq [3, 4, 5, 6, 27] (h := ?_)
    repeat refine AW.seq ?_
    refine AW.midK [3, 4, 5, 6] (fun t => ∃ O3, t = ⟨111, [(3, .sl 40 (a64 X)), (4, .ref 1192 0 24 1), (5, bo (((HI X).take j).any fun v => decide (v > 0))), (6, i j)], [(1192, k64 O3)]⟩ ∧ (HI X).take (j + 1) ++ List.replicate (24 - (j + 1)) 0 = O3) ?_ ?_
    · refine AW.cond rfl (fun d_ => ?_) (fun d_ => ?_)
      · have j7 : j < 23 := by simp at d_; omega
        have j8 : 17 + j < 40 := by omega
        have i3 : (0:Int) ≤ ((17 + j : Nat):Int) := by omega
        have i4 : ((17 + j : Nat):Int) < ((40:Nat):Int) := by omega
        have w3 : Int.tmod (at_ X (17 + j)) 4 = at_ X (17 + j) % 4 := tmod_nn (by omega)
        have w4 : IntKind.i64.wrap (at_ X (17 + j) % 4 * 64) = at_ X (17 + j) % 4 * 64 := wrapI_o (by omega) (by omega)
        have w5 : IntKind.i64.wrap (at_ X (16 + j) / 4 + at_ X (17 + j) % 4 * 64) = at_ X (16 + j) / 4 + at_ X (17 + j) % 4 * 64 := wrapI_o (by omega) (by omega)
        repeat refine AW.seq ?_
        refine AW.drw 14 [] (by kernel_rfl) (h := ?_)
        iterate 14 refine ADL.dm 1 (h := ?_)
        refine ADL.done hmix rfl rfl (hT := ?_)
        iterate 2 refine AOL.s1 (h := ?_)
        refine AOL.nil ?_
        exact ⟨_, rfl, by rw [← fs, show at_ (HI X) j = _ from hq]⟩
      · have j7 : j = 23 := by simp at d_; omega
        refine AW.skip ?_
        refine ⟨_, rfl, ?_⟩
        rw [← fs, show at_ (HI X) j = _ from hq]
        rw [j7, show at_ X (17 + 23) = 0 from at_ge (by omega), ← hO2, j7]
        rw [show (0:Int) % 4 * 64 = 0 by decide, Int.add_zero]
    rintro t ⟨O3, rfl, hO3⟩
    have lO3 : O3.length = 24 := by rw [← hO3, List.length_append, List.length_take, List.length_replicate, lH]; omega
    have aO3 : at_ O3 j = at_ (HI X) j := by rw [← hO3, ← fs, at_set _ (by omega)]
    have hR : id (((HI X).take (j + 1) ++ List.replicate (24 - (j + 1)) 0) = O3) := hO3
    clear hO3 fs hq aO sO lO2 ha hb
    repeat refine AW.seq ?_
    refine AW.reg ?_
    iterate 2 refine AOL.s1 (h := ?_)
    refine AOL.kq [3, 4, 6, 44] (h := ?_)
    refine AOL.or 44 50 (os' := ?_) (x := ?_) (h1 := ?_) (h0 := ?_) (h := ?_)
    rotate_left 2
    iterate 2
      · intro hb_ K' hK; (iterate 6 refine AOL.s1 (h := ?_)); refine AOL.kq [3, 4, 6, 50] (h := ?_); exact hK
    iterate 1 refine AOL.s1 (h := ?_)
    refine AOL.nil ?_
    repeat refine AW.seq ?_
    refine AW.reg ?_
    iterate 3 refine AOL.s1 (h := ?_)
    refine AOL.nil ?_
    refine ⟨m, by omega, j + 1, ?_, by omega⟩
    rw [show _ = _ from an]
    rw [show _ = O3 from hR]
    rfl
  · obtain rfl : j = 24 := by simp at c_; omega
    rw [Nat.sub_self, List.replicate_zero, List.append_nil, List.take_of_length_le (by omega)]
    clear c_ hj
    have lL := LOW_len lX
    have h17 : (X.take 17).length = 17 := by rw [List.length_take]; omega
    have s17 : ∀ H, aSlice Try.prog 50 H (.sl 40 (a64 X)) none (some (i 17)) none = some (.sl 17 (a64 (X.take 17))) := fun H => by
      rw [aSlice_sl (e := 3) (by kernel_rfl) (by kernel_rfl) (a := 0) (b := 17) rfl rfl (by omega) (by omega), List.drop_zero, a64_take]
    have x16 : at_ (X.take 17) 16 = at_ X 16 := by
      unfold at_
      rw [List.getD_eq_getElem?_getD, List.getD_eq_getElem?_getD, List.getElem?_take, if_pos (by omega)]
    have hc := dig_at dX 16
    have w1 : Int.tmod (at_ X 16) 4 = at_ X 16 % 4 := tmod_nn (by omega)
    have hL : (X.take 17).set 16 (at_ X 16 % 4) = LOW X := rfl
    repeat refine AW.seq ?_
    refine AW.exit ?_
    repeat (first | refine Kseq.ex ?_ | refine Kloop.ex ?_ | refine Kblock.miss (by decide) ?_)
    refine Kblock.hit ?_
    refine AW.kq [3, 4, 5] (h := ?_)
    repeat refine AW.seq ?_
    refine AW.reg ?_
    iterate 5 refine AOL.s1 (h := ?_)
    refine AOL.nil ?_
    refine AW.kq [4, 5, 7] (h := ?_)
    repeat refine AW.seq ?_
    refine AW.reg ?_
    iterate 7 refine AOL.s1 (h := ?_)
    refine AOL.nil ?_
    refine AW.kq [4, 5, 7] (h := ?_)
    repeat refine AW.seq ?_
    refine AW.reg ?_
    iterate 2 refine AOL.s1 (h := ?_)
    refine AOL.nil ?_
    refine AW.kq [4, 7, 62] (h := ?_)
    have dW := LOW_dig lX dX
    have W16 := LOW_16 lX
    have W17 : at_ (LOW X) 16 ≤ 3 := by omega
    have fz := fun hz hs => rst_small (X := X) (p := p) lX dX hz hm hs
    have fb := fun hz hs => rst_big (X := X) (p := p) lX dX hz hm hs
    have fm := fold_mod lX dX
    have fl := fun hp => fold_lt lX dX hp
    have fd := fol_bd lX dX
    have hz1 := any_pos (HI_dig dX)
    have hz2 := pos_any (HI_dig dX)
    have dH := HI_dig dX
    clear hL x16 s17 h17 w1 hc W16
    generalize LOW X = W at *
    generalize HI X = H at *
    generalize hsm : (H.any fun v => decide (v > 0)) = sm at *
    replace fz : id (∀ (hz : vl H = 0) (hs : vl W < P130), W = rstF p) := fz
    replace fb : id (∀ (hz : vl H = 0) (hs : ¬ vl W < P130), TOP W = rstF p) := fb
    replace fm : id (vl (cr 40 0 (fol H W)) % P130 = vl X % P130) := fm
    clear hsm
    repeat refine AW.seq ?_
    refine AW.cond rfl (fun e_ => ?_) (fun e_ => ?_)
    · have hz : vl H = 0 := hz1 (by simpa using e_)
      replace hz : id (vl H = 0) := hz
      have cl : Fn Try.prog 66 [.sl 17 (sub 0 (17 * 1) (a64 W))] [] (fun r _ => r = .val (.bool (decide (vl W < P130)))) := by
        rw [sub_all (by rw [a64_len]; omega)]; exact obolref06_less_c lL dW W17
      clear hz1 hz2 e_
      refine AW.let 1192 (h := ?_)
      repeat refine AW.seq ?_
      refine AW.reg ?_
      iterate 1 refine AOL.s1 (h := ?_)
      refine AOL.callB (st1 := ⟨0, [], []⟩) [(1816, a64 W)] (by intro p hp; simp only [List.mem_singleton] at hp; subst hp; exact ⟨_, rfl, rfl, fun h => by cases h⟩) rfl cl (by kernel_rfl) rfl (h := ?_)
      iterate 1 refine AOL.s1 (h := ?_)
      refine AOL.nil ?_
      refine AW.kq [7, 8] (h := ?_)
      repeat refine AW.seq ?_
      refine AW.reg ?_
      iterate 2 refine AOL.s1 (h := ?_)
      refine AOL.nil ?_
      refine AW.kq [7, 66] (h := ?_)
      repeat refine AW.seq ?_
      refine AW.midK [7] (fun t => t = ⟨111, [(7, .ref 1816 0 17 1)], [(1816, k64 (rstF p))]⟩) ?_ ?_
      · refine AW.cond rfl (fun f_ => ?_) (fun f_ => ?_)
        · have f1 : ¬ vl W < P130 := by simpa using f_
          have f2 := fb hz f1
          have a0 := dig_at dW 0
          have hd0 := a64_hd (V := W) (by omega)
          have w1 : IntKind.i64.wrap (at_ W 0 + 5) = at_ W 0 + 5 := wrapI_o (by omega) (by omega)
          have l5 : (W.set 0 (at_ W 0 + 5)).length = 17 := by rw [ls, lL]
          have d5 : ∀ v ∈ W.set 0 (at_ W 0 + 5), 0 ≤ v ∧ v ≤ 1099511627776 := by
            intro v hv
            rcases List.mem_or_eq_of_mem_set hv with hv | rfl
            · have := dW v hv; omega
            · omega
          have c2 := obolref06_carried_c (L := W.set 0 (at_ W 0 + 5)) (n := 17) d5 (by omega) (by omega)
          unfold sl64 at c2
          rw [l5] at c2
          have dC := cr_dig 17 0 (W.set 0 (at_ W 0 + 5))
          have lC := cr_len 17 0 (W.set 0 (at_ W 0 + 5))
          replace f2 : id ((cr 17 0 (W.set 0 (at_ W 0 + 5))).set 16 (at_ (cr 17 0 (W.set 0 (at_ W 0 + 5))) 16 % 4) = rstF p) := f2
          clear f_ f1
          repeat refine AW.seq ?_
          refine AW.reg ?_
          iterate 7 refine AOL.s1 (h := ?_)
          refine AOL.nil ?_
          refine AW.fz 1816 rfl (fun h => by cases h) (h := ?_)
          refine AW.kq [3, 7] (h := ?_)
          rw [sub_all (by rw [a64_len]; omega)]
          generalize W.set 0 (at_ W 0 + 5) = W5 at *
          generalize cr 17 0 W5 = C at *
          repeat refine AW.seq ?_
          refine AW.reg ?_
          iterate 1 refine AOL.s1 (h := ?_)
          refine AOL.callO 1816 ((c2)) rfl (by kernel_rfl) rfl (by first | rfl | exact frees_fm (fun _ => rfl) _ | exact a64_free _ | exact by8_free _) (by intro l_ hl_; simp [labs, labss] at hl_ <;> exact hl_) (by decide) (by simp only [St.drop, mapT, mapH, kill, kills, del, St.put, ins, ren, rens, reduceIte, Nat.reduceLT, Nat.reduceEqDiff, Bool.false_eq_true]; exact rfl) ?_
          iterate 1 refine AOL.s1 (h := ?_)
          refine AOL.nil ?_
          refine AW.kq [3, 7] (h := ?_)
          have w6 : Int.tmod (at_ C 16) 4 = at_ C 16 % 4 := tmod_nn (dig_at dC 16).1
          repeat refine AW.seq ?_
          refine AW.reg ?_
          iterate 7 refine AOL.s1 (h := ?_)
          refine AOL.nil ?_
          rw [show _ = _ from f2]
          rfl
        · have f1 : vl W < P130 := by simpa using f_
          have f2 : W = rstF p := fz hz f1
          refine AW.skip ?_
          rw [← f2]
          rfl
      rintro t rfl
      repeat refine AW.seq ?_
      refine AW.reg ?_
      iterate 2 refine AOL.s1 (h := ?_)
      refine AOL.nil ?_
      refine AW.kq [2] (h := ?_)
      repeat refine AW.seq ?_
      refine AW.ret ?_
      refine ⟨_, [(1816, _)], rfl, (fun p_ hp_ => by simp only [List.mem_singleton] at hp_; subst hp_; first | exact List.mem_cons_self | exact List.mem_cons_of_mem _ List.mem_cons_self | exact List.mem_cons_of_mem _ (List.mem_cons_of_mem _ List.mem_cons_self)), ?_⟩
      refine Tells.one 1816 (by decide) ?_
      first | rfl | exact frees_fm (fun _ => rfl) _ | exact a64_free _ | exact by8_free _
      skip
    have hp0 : 0 < vl H := hz2 (by simpa using e_)
    have lt := fl hp0
    replace lt : id _ := lt
    clear hz1 hz2 e_ fl fz fb
    refine AW.skip ?_
    repeat refine AW.seq ?_
    refine AW.reg ?_
    iterate 1 refine AOL.s1 (h := ?_)
    refine AOL.nil ?_
    refine AW.kq [4, 7, 9] (h := ?_)
    repeat refine AW.seq ?_
    refine AW.block ?_
    repeat refine AW.seq ?_
    refine AW.loopK [4, 7, 9] (fun n' s => ∃ (j : Nat), s = ⟨111, [(4, .ref 1192 0 24 1), (7, .ref 1816 0 17 1), (9, i j)], [(1192, k64 ((fol H W).take j ++ H.drop j)), (1816, k64 W)]⟩ ∧ j + n' = 24) (24) ?_ ?_
    · exact ⟨0, rfl, rfl⟩
    rintro n' s ⟨j, rfl, hj⟩
    repeat refine AW.seq ?_
    refine AW.reg ?_
    iterate 2 refine AOL.s1 (h := ?_)
    refine AOL.nil ?_
    refine AW.kq [4, 7, 9, 83] (h := ?_)
    repeat refine AW.seq ?_
    refine AW.cond rfl (fun d_ => ?_) (fun d_ => ?_)
    · have j1 : j < 24 := by simp at d_; omega
      obtain ⟨m, rfl⟩ : ∃ m, n' = m + 1 := ⟨n' - 1, by omega⟩
      have k2 : IntKind.i64.wrap ((j : Int) + 1) = ((j + 1 : Nat) : Int) := by rw [wrapI_o (by omega) (by omega)]; omega
      have j0 : (0:Int) ≤ j := by omega
      have j2 : (j:Int) < ((24:Nat):Int) := by omega
      have j6 : j + 1 ≤ 24 := by omega
      have j10 : j ≤ 23 := by omega
      have lG := fol_len H W
      have lO : ((fol H W).take j ++ H.drop j).length = 24 := by rw [List.length_append, List.length_take, List.length_drop, lG, lH]; omega
      have ha := dig_at dH j
      have hb := dig_at dW j
      have aO := at_app (D := fol H W) (H := H) (j := j) lG (by omega)
      have fs := fill2 (fol H W) H (j := j) lG (by omega)
      rw [fol_at H W j (by omega)] at fs
      have w1 : IntKind.i64.wrap (5 * at_ H j) = 5 * at_ H j := wrapI_o (by omega) (by omega)
      have w2 : IntKind.i64.wrap (5 * at_ H j + at_ W j) = 5 * at_ H j + at_ W j := wrapI_o (by omega) (by omega)
      replace fs : id (_ = _) := fs
      clear d_ lG
      refine AW.skip ?_
      repeat refine AW.seq ?_
      refine AW.block ?_
      repeat refine AW.seq ?_
      refine AW.reg ?_
      iterate 2 refine AOL.s1 (h := ?_)
      refine AOL.nil ?_
      refine AW.kq [4, 7, 9, 87] (h := ?_)
      repeat refine AW.seq ?_
      refine AW.cond rfl (fun g_ => ?_) (fun g_ => ?_)
      · have j7 : j < 17 := by simp at g_; omega
        have j8 : (j:Int) < ((17:Nat):Int) := by omega
        have j9 : j + 1 ≤ 17 := by omega
        repeat refine AW.seq ?_
        refine AW.drw 12 [] (by kernel_rfl) (h := ?_)
        iterate 12 refine ADL.dm 1 (h := ?_)
        refine ADL.done hmix rfl rfl (hT := ?_)
        iterate 2 refine AOL.s1 (h := ?_)
        refine AOL.nil ?_
        repeat refine AW.seq ?_
        refine AW.reg ?_
        iterate 3 refine AOL.s1 (h := ?_)
        refine AOL.nil ?_
        exact ⟨m, by omega, j + 1, by rw [← show _ = _ from fs]; rfl, by omega⟩
      · have j7 : 17 ≤ j := by simp at g_; omega
        have fs : _ = _ := fs
        rw [at_ge (show W.length ≤ j by omega), Int.add_zero] at fs
        repeat refine AW.seq ?_
        refine AW.reg ?_
        iterate 9 refine AOL.s1 (h := ?_)
        refine AOL.nil ?_
        repeat refine AW.seq ?_
        refine AW.reg ?_
        iterate 3 refine AOL.s1 (h := ?_)
        refine AOL.nil ?_
        exact ⟨m, by omega, j + 1, by rw [← fs]; rfl, by omega⟩
    · obtain rfl : j = 24 := by simp at d_; omega
      have lG := fol_len H W
      have eG : (fol H W).take 24 ++ H.drop 24 = fol H W := by rw [List.take_of_length_le (by omega), List.drop_of_length_le (by omega), List.append_nil]
      rw [eG]
      have c3 := carried_f (L := fol H W) (n := 40) fd (by omega) (by omega)
      unfold sl64 at c3
      rw [lG, lH] at c3
      clear d_ eG
      repeat refine AW.seq ?_
      refine AW.exit ?_
      repeat (first | refine Kseq.ex ?_ | refine Kloop.ex ?_ | refine Kblock.miss (by decide) ?_)
      refine Kblock.hit ?_
      refine AW.fz 1192 rfl (fun h => by cases h) (h := ?_)
      refine AW.kq [4] (h := ?_)
      rw [sub_all (by rw [a64_len]; omega)]
      have l40 := cr_len 40 0 (fol H W)
      have d40 := cr_dig 40 0 (fol H W)
      generalize cr 40 0 (fol H W) = Y at *
      repeat refine AW.seq ?_
      refine AW.let 1816 (h := ?_)
      refine AW.reg ?_
      iterate 1 refine AOL.s1 (h := ?_)
      refine AOL.callD rfl (c3) (by kernel_rfl) rfl rfl (h := ?_)
      iterate 1 refine AOL.s1 (h := ?_)
      refine AOL.nil ?_
      have lt : vl Y < vl X := lt
      have fm : vl Y % P130 = vl X % P130 := fm
      have y0 := vl_nn d40.nn
      exact ⟨_, by omega, Y, rfl, l40, d40, by show _ = _; rw [fm]; exact hm, rfl⟩
end Go.Proofs.Ythajlelljnkdiaa.E.M

