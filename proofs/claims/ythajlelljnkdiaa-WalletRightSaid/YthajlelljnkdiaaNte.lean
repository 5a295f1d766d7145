/- obolref17: the key of two points, and what is opened: contracts over E. -/
import Derived.Test.YthajlelljnkdiaaCrb
import Derived.Test.YthajlelljnkdiaaB02
import Derived.Test.YthajlelljnkdiaaClm
import Derived.Test.YthajlelljnkdiaaEJ
import Derived.Test.YthajlelljnkdiaaProg
import Derived.KernelRfl
set_option linter.unusedVariables false
set_option linter.unusedSimpArgs false
set_option maxRecDepth 10000
open Go Go.Proofs.Ythajlelljnkdiaa.E Go.Proofs
namespace Go.Proofs.Ythajlelljnkdiaa.E.M
abbrev TFo : Prop := tSz Try.prog 59 = some 3 ∧
    tAgg Try.prog 59 = some true ∧
    tBytes Try.prog 59 = some 40 ∧
    tZero Try.prog 59 = some [(.int .u64 0), (.int .u64 0), (.slice none 0 0)] ∧
    tSlice Try.prog 59 = none ∧
    tIface Try.prog 59 = some false ∧
    tCls Try.prog 59 = .other ∧
    tField Try.prog 59 0 = some (0, 25) ∧
    tField Try.prog 59 1 = some (2, 57) ∧
    (∀ ps, aBuild Try.prog 59 ps = (aFill ([(0, 2), (2, 1)][·]?) [.val (.int .u64 0), .val (.int .u64 0), .val (.slice none 0 0)] ps).map .agg) ∧
    tSz Try.prog 35 = some 3 ∧
    tAgg Try.prog 35 = some true ∧
    tBytes Try.prog 35 = some 24 ∧
    tZero Try.prog 35 = some [(.int .u64 0), (.int .u64 0), (.int .u64 0)] ∧
    tSlice Try.prog 35 = none ∧
    tIface Try.prog 35 = some false ∧
    tCls Try.prog 35 = .other ∧
    tField Try.prog 35 0 = some (0, 23) ∧
    tField Try.prog 35 1 = some (1, 23) ∧
    tField Try.prog 35 2 = some (2, 23) ∧
    (∀ ps, aBuild Try.prog 35 ps = (aFill ([(0, 1), (1, 1), (2, 1)][·]?) [.val (.int .u64 0), .val (.int .u64 0), .val (.int .u64 0)] ps).map .agg) ∧
    tSz Try.prog 25 = some 2 ∧
    tAgg Try.prog 25 = some true ∧
    tBytes Try.prog 25 = some 16 ∧
    tZero Try.prog 25 = some [(.int .u64 0), (.int .u64 0)] ∧
    tSlice Try.prog 25 = none ∧
    tIface Try.prog 25 = some false ∧
    tCls Try.prog 25 = .other ∧
    tField Try.prog 25 0 = some (0, 23) ∧
    tField Try.prog 25 1 = some (1, 23) ∧
    (∀ ps, aBuild Try.prog 25 ps = (aFill ([(0, 1), (1, 1)][·]?) [.val (.int .u64 0), .val (.int .u64 0)] ps).map .agg) ∧
    tSz Try.prog 23 = some 1 ∧
    tAgg Try.prog 23 = some false ∧
    tBytes Try.prog 23 = some 8 ∧
    tZero Try.prog 23 = some [(.int .u64 0)] ∧
    tSlice Try.prog 23 = none ∧
    tInt Try.prog 23 = some .u64 ∧
    Try.prog.underlying 23 = some (.int .u64) ∧
    tIface Try.prog 23 = some false ∧
    tCls Try.prog 23 = .other ∧
    tSz Try.prog 3 = some 1 ∧
    tAgg Try.prog 3 = some false ∧
    tBytes Try.prog 3 = some 8 ∧
    tZero Try.prog 3 = some [(.int .i64 0)] ∧
    tSlice Try.prog 3 = none ∧
    tInt Try.prog 3 = some .i64 ∧
    Try.prog.underlying 3 = some (.int .i64) ∧
    tIface Try.prog 3 = some false ∧
    tCls Try.prog 3 = .other ∧
    tSz Try.prog 4 = some 1 ∧
    tAgg Try.prog 4 = some false ∧
    tBytes Try.prog 4 = some 1 ∧
    tZero Try.prog 4 = some [(.bool false)] ∧
    tSlice Try.prog 4 = none ∧
    tIface Try.prog 4 = some false ∧
    tCls Try.prog 4 = .bool ∧
    tSz Try.prog 9 = some 1 ∧
    tAgg Try.prog 9 = some false ∧
    tBytes Try.prog 9 = some 16 ∧
    tZero Try.prog 9 = some [(.string ByteArray.empty)] ∧
    tSlice Try.prog 9 = none ∧
    Try.prog.underlying 9 = some .string ∧
    tIface Try.prog 9 = some false ∧
    tCls Try.prog 9 = .string ∧
    tSz Try.prog 57 = some 1 ∧
    tAgg Try.prog 57 = some false ∧
    tBytes Try.prog 57 = some 24 ∧
    tZero Try.prog 57 = some [(.slice none 0 0)] ∧
    tSlice Try.prog 57 = some 5 ∧
    Try.prog.underlying 57 = some (.slice 5) ∧
    tIface Try.prog 57 = some false ∧
    tCls Try.prog 57 = .slice ∧
    tSz Try.prog 5 = some 1 ∧
    tAgg Try.prog 5 = some false ∧
    tBytes Try.prog 5 = some 1 ∧
    tZero Try.prog 5 = some [(.int .u8 0)] ∧
    tSlice Try.prog 5 = none ∧
    tInt Try.prog 5 = some .u8 ∧
    Try.prog.underlying 5 = some (.int .u8) ∧
    tIface Try.prog 5 = some false ∧
    tCls Try.prog 5 = .other
theorem tfo : TFo :=
  ⟨rfl, rfl, rfl, rfl, rfl, rfl, rfl, rfl, rfl, fun _ => rfl, rfl, rfl, rfl, rfl, rfl, rfl, rfl, rfl, rfl, rfl, fun _ => rfl, rfl, rfl, rfl, rfl, rfl, rfl, rfl, rfl, rfl, fun _ => rfl, rfl, rfl, rfl, rfl, rfl, rfl, rfl, rfl, rfl, rfl, rfl, rfl, rfl, rfl, rfl, rfl, rfl, rfl, rfl, rfl, rfl, rfl, rfl, rfl, rfl, rfl, rfl, rfl, rfl, rfl, rfl, rfl, rfl, rfl, rfl, rfl, rfl, rfl, rfl, rfl, rfl, rfl, rfl, rfl, rfl, rfl, rfl, rfl, rfl, rfl⟩
def edN (p : Int × Int) : Int := if p.1 % 2 = 1 then IntKind.u64.wrap (p.2 + 9223372036854775808) else p.2
def edF (p : Int × Int) : List Int := be (edN p)
theorem edF_dig (p : Int × Int) : dig (edF p) := be_dig _
theorem edF_len (p : Int × Int) : (edF p).length = 8 := be_len _
theorem w64_wrap (x : Int) : w64 (IntKind.u64.wrap x) := by rw [wu64]; exact ⟨by omega, by omega⟩
theorem edN_w {p : Int × Int} (hp : wE p) : w64 (edN p) := by
  unfold edN; split
  · exact w64_wrap _
  · exact hp.2
set_option maxHeartbeats 2000000 in
theorem obolref07_Bytes_o {p : Int × Int} (hp : wE p) : Fn Try.prog 50 [ed p] [] (Tells (.ref 1000 0 8 1) [(1000, ⟨5, false, by8 (edF p)⟩)]) := by
  refine Fn.enter Try.func50 Try.ntmps50 rfl (h := ?_)
  have tf := tfo
  have ot_ : (false || true) = true := rfl
  have h1 := hp.1
  have h2 := hp.2
  have t2 : p.1.tmod 2 = p.1 % 2 := Int.tmod_eq_emod_of_nonneg h1.1
  have cB := obolref02_Bytes_o (edN_w hp)
  unfold edF
  repeat refine AW.seq ?_
  refine AW.reg ?_
  iterate 2 refine AOL.s1 (h := ?_)
  refine AOL.nil ?_
  refine AW.kq [1] (h := ?_)
  repeat refine AW.seq ?_
  refine AW.reg ?_
  iterate 3 refine AOL.s1 (h := ?_)
  refine AOL.nil ?_
  refine AW.kq [1, 3] (h := ?_)
  repeat refine AW.seq ?_
  refine AW.reg ?_
  iterate 4 refine AOL.s1 (h := ?_)
  refine AOL.nil ?_
  refine AW.kq [3, 9] (h := ?_)
  refine AW.let 1016 (h := ?_)
  repeat refine AW.seq ?_
  refine AW.midK [3] (fun t => t = ⟨14, [(3, u (edN p))], []⟩) ?_ ?_
  · refine AW.cond rfl (fun c_ => ?_) (fun c_ => ?_)
    · have c1 : p.1 % 2 = 1 := by simpa using c_
      have e : edN p = IntKind.u64.wrap (p.2 + 9223372036854775808) := if_pos c1
      rw [e]
      repeat refine AW.seq ?_
      refine AW.reg ?_
      iterate 3 refine AOL.s1 (h := ?_)
      refine AOL.nil ?_
      exact rfl
    · have c1 : ¬ p.1 % 2 = 1 := by simpa using c_
      have e : edN p = p.2 := if_neg c1
      rw [e]
      refine AW.skip ?_
      exact rfl
  rintro t rfl
  repeat refine AW.seq ?_
  refine AW.reg ?_
  iterate 1 refine AOL.s1 (h := ?_)
  refine AOL.callO 3000 ((cB)) rfl (by kernel_rfl) rfl (by first | rfl | exact frees_fm (fun _ => rfl) _ | exact a64_free _ | exact by8_free _) (by intro l_ hl_; simp [labs, labss] at hl_ <;> exact hl_) (by decide) (by simp only [St.drop, mapT, mapH, kill, kills, del, St.put, ins, ren, rens, reduceIte, Nat.reduceLT, Nat.reduceEqDiff, Bool.false_eq_true]; exact rfl) ?_
  iterate 1 refine AOL.s1 (h := ?_)
  refine AOL.nil ?_
  refine AW.kq [2] (h := ?_)
  repeat refine AW.seq ?_
  refine AW.ret ?_
  refine ⟨_, [(3000, _)], rfl, (fun p_ hp_ => by simp only [List.mem_singleton] at hp_; subst hp_; first | exact List.mem_cons_self | exact List.mem_cons_of_mem _ List.mem_cons_self | exact List.mem_cons_of_mem _ (List.mem_cons_of_mem _ List.mem_cons_self)), ?_⟩
  refine Tells.one 3000 (by decide) ?_
  first | rfl | exact frees_fm (fun _ => rfl) _ | exact a64_free _ | exact by8_free _
  skip
theorem obolref07_Bytes_c {p : Int × Int} (hp : wE p) : Fn Try.prog 50 [ed p] [] (fun r _ => r = .sl 8 (by8 (edF p))) := by
  have h := (obolref07_Bytes_o hp).frozen (by8_free _)
  have e : frz 1000 (by8 (edF p)) (.ref 1000 0 8 1) = .sl 8 (by8 (edF p)) := by
    simp only [frz, if_true]
    rw [sub_all (by rw [by8_len, edF_len]; omega)]
  rwa [e] at h
def notesL : List Int := [110, 111, 116, 101, 115]
def secF (p q : Int × Int) : List Int := sumF notesL (edF p ++ edF q)
theorem secF_len (p q : Int × Int) : (secF p q).length = 32 := sumF_len _ _
theorem secF_dig (p q : Int × Int) : dig (secF p q) := sumF_dig _ _
set_option maxHeartbeats 4000000 in
theorem obolref17_Secret_c {p q : Int × Int} (hp : wE p) (hq : wE q) : Fn Try.prog 40 [ed p, ed q] [] (fun r h_ => r = .sl 32 (by8 (secF p q))) := by
  refine Fn.enter Try.func40 Try.ntmps40 rfl (h := ?_)
  have tf := tfo
  have ot_ : (false || true) = true := rfl
  have cP := obolref07_Bytes_o hp
  have cQ := obolref07_Bytes_c hq
  have lA : (edF p ++ edF q).length = 16 := by rw [List.length_append, edF_len, edF_len]
  have ba : by8 (edF p) ++ by8 (edF q) = by8 (edF p ++ edF q) := by8_app _ _
  have bl : ∀ V, (by8 V).length = V.length := by8_len
  have lp := edF_len p
  have lq := edF_len q
  have cS := obolref05_Sum_c (x := ⟨#[110, 111, 116, 101, 115]⟩) (L := notesL) (B := edF p ++ edF q) rfl (by decide) (by omega)
  unfold sl8 at cS
  rw [sumF_len, lA] at cS
  repeat refine AW.seq ?_
  refine AW.reg ?_
  iterate 3 refine AOL.s1 (h := ?_)
  refine AOL.nil ?_
  refine AW.kq [2, 3] (h := ?_)
  repeat refine AW.seq ?_
  refine AW.anyO (st1 := ⟨11, [(4, .sl 32 (by8 (secF p q)))], []⟩) hmix ?_ ?_
  · refine AAny.stepC [0, 2] (by kernel_rfl) rfl ?_
    refine AAllC.cons rfl rfl ?_ ?_
    · refine AOL.s1 (h := ?_)
      refine AOL.nil ?_
      refine AAny.stepC [1, 2] (by kernel_rfl) rfl ?_
      refine AAllC.cons rfl rfl ?_ ?_
      · refine AOL.callO 3000 (cP) rfl (by kernel_rfl) rfl (by first | rfl | exact frees_fm (fun _ => rfl) _ | exact a64_free _ | exact by8_free _) (by intro l_ hl_; simp [labs, labss] at hl_ <;> exact hl_) (by decide) (by simp only [St.drop, mapT, mapH, kill, kills, del, St.put, ins, ren, rens, reduceIte, Nat.reduceLT, Nat.reduceEqDiff, Bool.false_eq_true]; exact rfl) ?_
        refine AOL.nil ?_
        refine AAny.stepC [2] (by kernel_rfl) rfl ?_
        refine AAllC.cons rfl rfl ?_ ?_
        · refine AOL.s1 (h := ?_)
          refine AOL.nil ?_
          refine AAny.stepC [3] (by kernel_rfl) rfl ?_
          refine AAllC.cons rfl rfl ?_ ?_
          · refine AOL.callD rfl (cQ) (by kernel_rfl) rfl rfl (h := ?_)
            refine AOL.nil ?_
            refine AAny.stepC [4] (by kernel_rfl) rfl ?_
            refine AAllC.cons rfl rfl ?_ ?_
            · refine AOL.s1 (h := ?_)
              refine AOL.nil ?_
              refine AAny.stepC [5] (by kernel_rfl) rfl ?_
              refine AAllC.cons rfl rfl ?_ ?_
              · refine AOL.fz 3000 rfl (fun h => by cases h) (h := ?_)
                rw [sub_all (by rw [by8_len, lA]; decide)]
                refine AOL.callD rfl (cS) (by kernel_rfl) rfl rfl (h := ?_)
                refine AOL.nil ?_
                refine AAny.stepC [6] (by kernel_rfl) rfl ?_
                refine AAllC.cons rfl rfl ?_ ?_
                · iterate 1 refine AOL.s1 (h := ?_)
                  refine AOL.kq [4] (h := ?_)
                  refine AOL.let 1032 (h := ?_)
                  refine AOL.let 1048 (h := ?_)
                  refine AOL.nil ?_
                  exact AAny.done (by kernel_rfl) rfl
                exact AAllC.nil
              exact AAllC.nil
            exact AAllC.nil
          exact AAllC.nil
        exact AAllC.nil
      refine AAllC.cons rfl rfl ?_ ?_
      · refine AOL.s1 (h := ?_)
        refine AOL.nil ?_
        refine AAny.stepC [1] (by kernel_rfl) rfl ?_
        refine AAllC.cons rfl rfl ?_ ?_
        · refine AOL.callO 3000 (cP) rfl (by kernel_rfl) rfl (by first | rfl | exact frees_fm (fun _ => rfl) _ | exact a64_free _ | exact by8_free _) (by intro l_ hl_; simp [labs, labss] at hl_ <;> exact hl_) (by decide) (by simp only [St.drop, mapT, mapH, kill, kills, del, St.put, ins, ren, rens, reduceIte, Nat.reduceLT, Nat.reduceEqDiff, Bool.false_eq_true]; exact rfl) ?_
          refine AOL.nil ?_
          refine AAny.stepC [3] (by kernel_rfl) rfl ?_
          refine AAllC.cons rfl rfl ?_ ?_
          · refine AOL.callD rfl (cQ) (by kernel_rfl) rfl rfl (h := ?_)
            refine AOL.nil ?_
            refine AAny.stepC [4] (by kernel_rfl) rfl ?_
            refine AAllC.cons rfl rfl ?_ ?_
            · refine AOL.s1 (h := ?_)
              refine AOL.nil ?_
              refine AAny.stepC [5] (by kernel_rfl) rfl ?_
              refine AAllC.cons rfl rfl ?_ ?_
              · refine AOL.fz 3000 rfl (fun h => by cases h) (h := ?_)
                rw [sub_all (by rw [by8_len, lA]; decide)]
                refine AOL.callD rfl (cS) (by kernel_rfl) rfl rfl (h := ?_)
                refine AOL.nil ?_
                refine AAny.stepC [6] (by kernel_rfl) rfl ?_
                refine AAllC.cons rfl rfl ?_ ?_
                · iterate 1 refine AOL.s1 (h := ?_)
                  refine AOL.kq [4] (h := ?_)
                  refine AOL.let 1032 (h := ?_)
                  refine AOL.let 1048 (h := ?_)
                  refine AOL.nil ?_
                  exact AAny.done (by kernel_rfl) rfl
                exact AAllC.nil
              exact AAllC.nil
            exact AAllC.nil
          exact AAllC.nil
        exact AAllC.nil
      exact AAllC.nil
    refine AAllC.cons rfl rfl ?_ ?_
    · refine AOL.s1 (h := ?_)
      refine AOL.nil ?_
      refine AAny.stepC [0] (by kernel_rfl) rfl ?_
      refine AAllC.cons rfl rfl ?_ ?_
      · refine AOL.s1 (h := ?_)
        refine AOL.nil ?_
        refine AAny.stepC [1] (by kernel_rfl) rfl ?_
        refine AAllC.cons rfl rfl ?_ ?_
        · refine AOL.callO 3000 (cP) rfl (by kernel_rfl) rfl (by first | rfl | exact frees_fm (fun _ => rfl) _ | exact a64_free _ | exact by8_free _) (by intro l_ hl_; simp [labs, labss] at hl_ <;> exact hl_) (by decide) (by simp only [St.drop, mapT, mapH, kill, kills, del, St.put, ins, ren, rens, reduceIte, Nat.reduceLT, Nat.reduceEqDiff, Bool.false_eq_true]; exact rfl) ?_
          refine AOL.nil ?_
          refine AAny.stepC [3] (by kernel_rfl) rfl ?_
          refine AAllC.cons rfl rfl ?_ ?_
          · refine AOL.callD rfl (cQ) (by kernel_rfl) rfl rfl (h := ?_)
            refine AOL.nil ?_
            refine AAny.stepC [4] (by kernel_rfl) rfl ?_
            refine AAllC.cons rfl rfl ?_ ?_
            · refine AOL.s1 (h := ?_)
              refine AOL.nil ?_
              refine AAny.stepC [5] (by kernel_rfl) rfl ?_
              refine AAllC.cons rfl rfl ?_ ?_
              · refine AOL.fz 3000 rfl (fun h => by cases h) (h := ?_)
                rw [sub_all (by rw [by8_len, lA]; decide)]
                refine AOL.callD rfl (cS) (by kernel_rfl) rfl rfl (h := ?_)
                refine AOL.nil ?_
                refine AAny.stepC [6] (by kernel_rfl) rfl ?_
                refine AAllC.cons rfl rfl ?_ ?_
                · iterate 1 refine AOL.s1 (h := ?_)
                  refine AOL.kq [4] (h := ?_)
                  refine AOL.let 1032 (h := ?_)
                  refine AOL.let 1048 (h := ?_)
                  refine AOL.nil ?_
                  exact AAny.done (by kernel_rfl) rfl
                exact AAllC.nil
              exact AAllC.nil
            exact AAllC.nil
          exact AAllC.nil
        exact AAllC.nil
      exact AAllC.nil
    exact AAllC.nil
  skip
  skip
  skip
  skip
  skip
  skip
  skip
  skip
  skip
  refine AW.kq [4] (h := ?_)
  repeat refine AW.seq ?_
  refine AW.ret ?_
  refine ⟨_, [], rfl, HOk.nil _, ?_⟩
  rfl
theorem num_w {L : List Int} (hb : ∀ b ∈ L, b8 b) : w64 (num L) := by
  have h : ∀ (k : Nat) (M : List Int) (z : Int), (∀ b ∈ M, b8 b) → (0 ≤ z ∧ z < 256 ^ k) → M.length + k ≤ 8 → 0 ≤ M.foldl (fun a b => a * 256 + b) z ∧ M.foldl (fun a b => a * 256 + b) z < 18446744073709551616 := by
    intro k M
    induction M generalizing k with
    | nil => intro z _ hz hk; exact ⟨hz.1, Int.lt_of_lt_of_le hz.2 (pow256 (by simp at hk; omega))⟩
    | cons b M ih =>
      intro z hM hz hk
      have bb := hM b List.mem_cons_self
      have p : (256:Int) ^ (k + 1) = 256 ^ k * 256 := Int.pow_succ _ _
      refine ih (k + 1) _ (fun c hc => hM c (List.mem_cons_of_mem _ hc)) ⟨?_, ?_⟩ (by simp at hk; omega)
      · show 0 ≤ z * 256 + b; have := bb.1; have := hz.1; omega
      · show z * 256 + b < _; have := bb.2; have := hz.2; omega
  refine h 0 (L.take 8) 0 (fun b hb' => hb b (List.mem_of_mem_take hb')) (by decide) ?_
  rw [List.length_take]; omega
theorem dig_b8 {L : List Int} (h : dig L) : ∀ b ∈ L, b8 b := h
abbrev Sd := (Int × Int) × List Int
abbrev sdc (s : Sd) : List AV := [u s.1.1, u s.1.2, sl8 s.2]
abbrev wSd (s : Sd) : Prop := wE s.1 ∧ dig s.2 ∧ s.2.length < 1000000000
def nonL : List Int := List.replicate 12 0
def zeroN : Int × Int × Int := (0, 0, 0)
/-- what a key opens -/
def opnK (k : Int) (s : Sd) : List Int := secF s.1 (timesEd s.1 (sclH k))
def opnT (k : Int) (s : Sd) : List Int := strF (opnK k s) nonL (s.2.take 16)
def opnN (k : Int) (s : Sd) : Int × Int × Int := (num (opnT k s), twoH k 2, num ((opnT k s).drop 8))
def opnM (k : Int) (s : Sd) : Bool := (strOfNums (bothF (opnK k s) nonL (s.2.take 16))).toList == (strOfNums (s.2.drop 16)).toList
def opnB (k : Int) (s : Sd) : Bool := ptH s.1 && decide (s.2.length = 32) && opnM k s && maynH (opnN k s)
def opnF (k : Int) (s : Sd) : Int × Int × Int := if opnB k s = true then opnN k s else zeroN
theorem stepEd_w {a : Int × Int} {k : Int} {n : Nat} {o : Int × Int} (h : wE o) : wE (stepEd a k n o) := by
  unfold stepEd; split
  · exact sumEd_w _ _
  · exact dblEd_w h
theorem tmEd_w {a : Int × Int} {k : Int} : ∀ (n : Nat) {o : Int × Int}, wE o → wE (tmEd a k n o)
  | 0, _, h => h
  | n + 1, _, h => by rw [tmEd_succ]; exact tmEd_w n (stepEd_w h)
theorem wE_times (a : Int × Int) (k : Int) : wE (timesEd a k) := tmEd_w 64 (by decide)
theorem sclH_w {k : Int} (hk : w64 k) : w64 (sclH k) := by
  unfold sclH; split
  · decide
  · exact w64_mod (m := 72057593894066549) (by decide) _
set_option maxHeartbeats 16000000 in
theorem obolref17_Open_c {k : Int} {s : Sd} (hk : w64 k) (hs : wSd s) : Fn Try.prog 33 [u k, .agg (sdc s)] [] (fun r h_ => r = .tup [nt (opnF k s), bo (opnB k s)]) := by
  refine Fn.enter Try.func33 Try.ntmps33 rfl (h := ?_)
  have tf := tfo
  have ot_ : (false || true) = true := rfl
  obtain ⟨⟨ex, ey⟩, B⟩ := s
  obtain ⟨hE, dB, lB⟩ := hs
  simp only at hE dB lB
  show AW _ _ _ ⟨66, [(0, u k), (1, .agg [u ex, u ey, sl8 B])], []⟩
  have cP := obolref17_Point_c (p := (ex, ey)) hE
  have wT := wE_times (ex, ey) (sclH k)
  have wS : w64 (sclH k) := sclH_w hk
  have eB : opnB k ((ex, ey), B) = (ptH (ex, ey) && decide (B.length = 32) && opnM k ((ex, ey), B) && maynH (opnN k ((ex, ey), B))) := rfl
  have mk12 : ∀ st d, aMake Try.prog st d 57 12 12 = some (.ref (lab d) 0 12 1, st.new (lab d) ⟨5, false, by8 nonL⟩) := mkB (n := 12) (by omega)
  have cT := obolref07_Times_c (a := (ex, ey)) (k := sclH k) hE wS
  have cS := obolref17_Secret_c (p := (ex, ey)) (q := timesEd (ex, ey) (sclH k)) hE wT
  have lK := secF_len (ex, ey) (timesEd (ex, ey) (sclH k))
  have dK := secF_dig (ex, ey) (timesEd (ex, ey) (sclH k))
  have hK : opnK k ((ex, ey), B) = secF (ex, ey) (timesEd (ex, ey) (sclH k)) := rfl
  generalize timesEd (ex, ey) (sclH k) = TT at *
  generalize secF (ex, ey) TT = KK at *
  replace eB : id (_ = _) := eB
  replace hK : id (_ = _) := hK
  repeat refine AW.seq ?_
  refine AW.reg ?_
  iterate 3 refine AOL.s1 (h := ?_)
  refine AOL.nil ?_
  refine AW.kq [0, 3, 4] (h := ?_)
  repeat refine AW.seq ?_
  refine AW.reg ?_
  iterate 2 refine AOL.s1 (h := ?_)
  refine AOL.callD rfl (cP) (by kernel_rfl) rfl rfl (h := ?_)
  iterate 1 refine AOL.s1 (h := ?_)
  refine AOL.nil ?_
  refine AW.kq [0, 3, 4, 6] (h := ?_)
  repeat refine AW.seq ?_
  refine AW.reg ?_
  iterate 3 refine AOL.s1 (h := ?_)
  refine AOL.kq [0, 3, 4, 17] (h := ?_)
  refine AOL.or 17 22 (os' := ?_) (x := ?_) (h1 := ?_) (h0 := ?_) (h := ?_)
  rotate_left 2
  iterate 2
    · intro hb_ K' hK; (iterate 5 refine AOL.s1 (h := ?_)); refine AOL.kq [0, 3, 4, 22] (h := ?_); exact hK
  refine AOL.nil ?_
  refine AW.kq [0, 3, 4, 22] (h := ?_)
  repeat refine AW.seq ?_
  refine AW.cond rfl (fun c_ => ?_) (fun c_ => ?_)
  · have hb : opnB k ((ex, ey), B) = false := by
      rw [show _ = _ from eB]
      simp only [Bool.or_eq_true, Bool.not_eq_true', bne_iff_ne, ne_eq] at c_
      rcases c_ with h | h
      · rw [h]; rfl
      · rw [decide_eq_false (by omega : ¬ B.length = 32)]; simp
    have hf : opnF k ((ex, ey), B) = (0, 0, 0) := by unfold opnF; rw [hb]; rfl
    rw [hf, hb]
    repeat refine AW.seq ?_
    refine AW.reg ?_
    iterate 3 refine AOL.s1 (h := ?_)
    refine AOL.nil ?_
    refine AW.kq [4, 5] (h := ?_)
    repeat refine AW.seq ?_
    refine AW.ret ?_
    refine ⟨_, [], rfl, HOk.nil _, ?_⟩
    rfl
  have h1 : ptH (ex, ey) = true := by
    cases h : ptH (ex, ey)
    · rw [h] at c_; cases c_
    · rfl
  have lb : B.length = 32 := by
    rw [h1] at c_
    simp only [Bool.not_true, Bool.false_or, bne_eq_false_iff_eq] at c_; omega
  have eB : _ = _ := eB
  rw [h1, decide_eq_true lb, Bool.true_and, Bool.true_and] at eB
  replace eB : id (_ = _) := eB
  have cSc := obolref17_Scalar_c hk
  have lT : (B.take 16).length = 16 := by rw [List.length_take]; omega
  have dT := dB.take 16
  have lD : (B.drop 16).length = 16 := by rw [List.length_drop]; omega
  have s16 : ∀ H, aSlice Try.prog 57 H (.sl 32 (by8 B)) none (some (i 16)) none = some (.sl 16 (by8 (B.take 16))) := fun H => by
    rw [aSlice_sl (e := 5) (by kernel_rfl) (by kernel_rfl) (a := 0) (b := 16) rfl rfl (by omega) (by omega), List.drop_zero, by8_take]
  have s17 : ∀ H, aSlice Try.prog 57 H (.sl 32 (by8 B)) (some (i 16)) none none = some (.sl 16 (by8 (B.drop 16))) := fun H => by
    rw [aSlice_sl (e := 5) (by kernel_rfl) (by kernel_rfl) (a := 16) (b := 32) rfl rfl (by omega) (by omega), by8_drop, List.take_of_length_le (by rw [by8_len, lD]; decide)]
  have cBo := obolref06_Both_c (K := KK) (M := nonL) (T := B.take 16) lK rfl (by omega) dT
  unfold sl8 at cBo
  rw [lT] at cBo
  have lbo : (bothF KK nonL (B.take 16)).length = 16 := mrkF_len _ _
  have cSt := obolref06_Stream_c (K := KK) (M := nonL) (T := B.take 16) lK rfl (by omega)
  unfold sl8 at cSt
  rw [lT] at cSt
  have lst := strF_len KK nonL (B.take 16)
  have dst := strF_dig KK nonL (B.take 16)
  rw [lT] at lst
  have hT : opnT k ((ex, ey), B) = strF KK nonL (B.take 16) := by unfold opnT; rw [show _ = _ from hK]
  have hM : opnM k ((ex, ey), B) = ((strOfNums (bothF KK nonL (B.take 16))).toList == (strOfNums (B.drop 16)).toList) := by unfold opnM; rw [show _ = _ from hK]
  have hN : opnN k ((ex, ey), B) = (num (opnT k ((ex, ey), B)), twoH k 2, num ((opnT k ((ex, ey), B)).drop 8)) := rfl
  rw [hT] at hN
  generalize strF KK nonL (B.take 16) = ST at *
  generalize bothF KK nonL (B.take 16) = BO at *
  generalize B.take 16 = B1 at *
  generalize B.drop 16 = B2 at *
  replace hM : id (_ = _) := hM
  have lS8 : (ST.drop 8).length = 8 := by rw [List.length_drop]; omega
  have cN1 := obolref02_Number_c (L := ST) dst (by omega) (by omega)
  have cN2 := obolref02_Number_c (L := ST.drop 8) (dst.drop 8) (by omega) (by omega)
  unfold sl8 at cN1 cN2
  rw [lst] at cN1
  rw [lS8] at cN2
  have wn1 : w64 (num ST) := num_w dst
  have wn2 : w64 (num (ST.drop 8)) := num_w (dst.drop 8)
  have s8 : ∀ H, aSlice Try.prog 57 H (.sl 16 (by8 ST)) (some (i 8)) none none = some (.sl 8 (by8 (ST.drop 8))) := fun H => by
    rw [aSlice_sl (e := 5) (by kernel_rfl) (by kernel_rfl) (a := 8) (b := 16) rfl rfl (by omega) (by omega), by8_drop, List.take_of_length_le (by rw [by8_len, lS8]; decide)]
  have wo : w64 (twoH k 2) := (twoH_l k 2).w
  have cO := obolref17_Owner_c hk
  have cMy := obolref17_May_c (n := (num ST, twoH k 2, num (ST.drop 8))) ⟨wn1, wo, wn2⟩
  replace hN : id (_ = _) := hN
  clear c_ hT
  generalize num ST = n1 at *
  generalize num (ST.drop 8) = n2 at *
  generalize twoH k 2 = ow at *
  refine AW.skip ?_
  repeat refine AW.seq ?_
  refine AW.drw 7 [] (by kernel_rfl) (h := ?_)
  iterate 5 refine ADL.dm 1 (h := ?_)
  refine ADL.call rfl (cSc) (by kernel_rfl) rfl rfl (h := ?_)
  refine ADL.call rfl (cT) (by kernel_rfl) rfl rfl (h := ?_)
  refine ADL.done hmix rfl rfl (hT := ?_)
  refine AOL.callD rfl (cS) (by kernel_rfl) rfl rfl (h := ?_)
  iterate 1 refine AOL.s1 (h := ?_)
  refine AOL.nil ?_
  refine AW.kq [0, 3, 4, 7] (h := ?_)
  repeat refine AW.seq ?_
  refine AW.reg ?_
  iterate 2 refine AOL.s1 (h := ?_)
  refine AOL.nil ?_
  refine AW.fz 1512 rfl (fun h => by cases h) (h := ?_)
  refine AW.kq [0, 3, 4, 7, 8] (h := ?_)
  rw [sub_all (by decide)]
  repeat refine AW.seq ?_
  refine AW.drw 11 [] (by kernel_rfl) (h := ?_)
  iterate 5 refine ADL.dm 1 (h := ?_)
  refine ADL.call rfl (cBo) (by kernel_rfl) rfl rfl (h := ?_)
  iterate 5 refine ADL.dm 1 (h := ?_)
  refine ADL.done hmix rfl rfl (hT := ?_)
  iterate 1 refine AOL.s1 (h := ?_)
  refine AOL.nil ?_
  refine AW.kq [0, 3, 4, 7, 8, 44] (h := ?_)
  repeat refine AW.seq ?_
  refine AW.cond rfl (fun d_ => ?_) (fun d_ => ?_)
  · have hb : opnB k ((ex, ey), B) = false := by
      rw [show _ = _ from eB, show _ = _ from hM]
      rw [Bool.not_eq_true'] at d_
      rw [d_]; rfl
    have hf : opnF k ((ex, ey), B) = (0, 0, 0) := by unfold opnF; rw [hb]; rfl
    rw [hf, hb]
    repeat refine AW.seq ?_
    refine AW.reg ?_
    iterate 3 refine AOL.s1 (h := ?_)
    refine AOL.nil ?_
    refine AW.kq [4, 5] (h := ?_)
    repeat refine AW.seq ?_
    refine AW.ret ?_
    refine ⟨_, [], rfl, HOk.nil _, ?_⟩
    rfl
  have eB : _ = _ := eB
  have hM : _ = _ := hM
  have d1 : ((strOfNums BO).toList == (strOfNums B2).toList) = true := by rw [Bool.not_eq_false'] at d_; exact d_
  rw [hM, d1, Bool.true_and, show _ = _ from hN] at eB
  replace eB : id (_ = _) := eB
  clear d_ hM
  refine AW.skip ?_
  repeat refine AW.seq ?_
  refine AW.reg ?_
  iterate 5 refine AOL.s1 (h := ?_)
  refine AOL.callD rfl (cSt) (by kernel_rfl) rfl rfl (h := ?_)
  iterate 1 refine AOL.s1 (h := ?_)
  refine AOL.nil ?_
  refine AW.kq [0, 4, 9] (h := ?_)
  repeat refine AW.seq ?_
  refine AW.drw 9 [1160] (by kernel_rfl) (h := ?_)
  iterate 1 refine ADL.dm 1 (h := ?_)
  refine ADL.call rfl (cN1) (by kernel_rfl) rfl rfl (h := ?_)
  iterate 1 refine ADL.dm 1 (h := ?_)
  refine ADL.call rfl (cO) (by kernel_rfl) rfl rfl (h := ?_)
  iterate 2 refine ADL.dm 1 (h := ?_)
  refine ADL.call rfl (cN2) (by kernel_rfl) rfl rfl (h := ?_)
  iterate 2 refine ADL.dm 1 (h := ?_)
  refine ADL.done hmix rfl rfl (hT := ?_)
  iterate 1 refine AOL.s1 (h := ?_)
  refine AOL.nil ?_
  refine AW.kq [4, 10] (h := ?_)
  repeat refine AW.seq ?_
  refine AW.reg ?_
  iterate 1 refine AOL.s1 (h := ?_)
  refine AOL.callD rfl (cMy) (by kernel_rfl) rfl rfl (h := ?_)
  iterate 1 refine AOL.s1 (h := ?_)
  refine AOL.nil ?_
  refine AW.kq [4, 10, 11] (h := ?_)
  repeat refine AW.seq ?_
  refine AW.reg ?_
  iterate 2 refine AOL.s1 (h := ?_)
  refine AOL.nil ?_
  refine AW.kq [4, 10, 63] (h := ?_)
  repeat refine AW.seq ?_
  refine AW.cond rfl (fun e_ => ?_) (fun e_ => ?_)
  · have hb : opnB k ((ex, ey), B) = false := by
      rw [show _ = _ from eB]
      rw [Bool.not_eq_true'] at e_
      exact e_
    have hf : opnF k ((ex, ey), B) = (0, 0, 0) := by unfold opnF; rw [hb]; rfl
    rw [hf, hb]
    repeat refine AW.seq ?_
    refine AW.reg ?_
    iterate 3 refine AOL.s1 (h := ?_)
    refine AOL.nil ?_
    refine AW.kq [4, 5] (h := ?_)
    repeat refine AW.seq ?_
    refine AW.ret ?_
    refine ⟨_, [], rfl, HOk.nil _, ?_⟩
    rfl
  have hb : opnB k ((ex, ey), B) = true := by
    rw [show _ = _ from eB]
    rw [Bool.not_eq_false'] at e_
    exact e_
  have hf : opnF k ((ex, ey), B) = (n1, ow, n2) := by unfold opnF; rw [hb, if_pos rfl]; exact hN
  rw [hf, hb]
  refine AW.skip ?_
  repeat refine AW.seq ?_
  refine AW.reg ?_
  iterate 3 refine AOL.s1 (h := ?_)
  refine AOL.nil ?_
  refine AW.kq [4, 5] (h := ?_)
  repeat refine AW.seq ?_
  refine AW.ret ?_
  refine ⟨_, [], rfl, HOk.nil _, ?_⟩
  rfl
end Go.Proofs.Ythajlelljnkdiaa.E.M

