/- Lines, turns, pairings and their products, by the program: contracts over E. -/
import Derived.Test.YtdbpjegocmdplaaPairA
import Derived.Test.YtdbpjegocmdplaaProg
import Derived.KernelRfl
set_option linter.unusedVariables false
set_option linter.unusedSimpArgs false
set_option maxRecDepth 10000
open Go Go.Proofs.Ytdbpjegocmdplaa.E Go.Proofs
namespace Go.Proofs.Ytdbpjegocmdplaa.E.M
abbrev TFL : Prop := tSz Try.prog 33 = some 1 ∧
    tAgg Try.prog 33 = some false ∧
    tBytes Try.prog 33 = some 24 ∧
    tZero Try.prog 33 = some [(.slice none 0 0)] ∧
    tSlice Try.prog 33 = some 32 ∧
    Try.prog.underlying 33 = some (.slice 32) ∧
    tIface Try.prog 33 = some false ∧
    tCls Try.prog 33 = .slice
theorem tfl : TFL :=
  ⟨rfl, rfl, rfl, rfl, rfl, rfl, rfl, rfl⟩

/-- powers from the lowest bit on -/
def plo : Nat → Int × Int → Int → Int × Int → Int × Int
  | 0, _, _, o => o
  | n + 1, a, e, o => if e > 0 then plo n (mulE a a) (e / 2) (if e % 2 = 1 then mulE o a else o) else o
theorem plo_zero : ∀ (n : Nat) (a o : Int × Int), plo n a 0 o = o
  | 0, _, _ => rfl
  | n + 1, _, _ => by rw [plo, if_neg (by decide)]
set_option maxHeartbeats 1000000 in
theorem ext_Pow_c {a0 a1 e : Int} (h0 : w64 a0) (h1 : w64 a1) (he : w64 e) : Fn Try.prog 86 [ee (a0, a1), u e] [] (fun r _ => r = ee (plo 64 (a0, a1) e (1, 0))) := by
  refine Fn.enter Try.func86 Try.ntmps86 rfl (h := ?_)
  have tf := tf
  have tfe := tfe
  repeat refine AW.seq ?_
  refine AW.reg ?_
  iterate 2 refine AOL.s1 (h := ?_)
  refine AOL.nil ?_
  refine AW.kq [1, 2, 4] (h := ?_)
  repeat refine AW.seq ?_
  refine AW.reg ?_
  iterate 3 refine AOL.s1 (h := ?_)
  refine AOL.nil ?_
  refine AW.kq [1, 2, 4, 5] (h := ?_)
  repeat refine AW.seq ?_
  refine AW.block ?_
  repeat refine AW.seq ?_
  refine AW.loopK [1, 2, 4, 5] (fun n s => ∃ (x y z w f : Int), s = ⟨21, [(1, u f), (2, .ptr 1032 0), (4, .ptr 1064 0), (5, .ptr 1080 0)], [(1032, ⟨80, true, [u x, u y]⟩), (1064, ⟨80, true, [u 0, u 0]⟩), (1080, ⟨80, true, [u z, u w]⟩)]⟩ ∧ n ≤ 64 ∧ (0 ≤ f ∧ f < 2 ^ n) ∧ wE (x, y) ∧ (lt z ∧ lt w) ∧ plo n (x, y) f (z, w) = plo 64 (a0, a1) e (1, 0)) 64 ?_ ?_
  · exact ⟨a0, a1, 1, 0, e, rfl, Nat.le_refl _, he, ⟨h0, h1⟩, one_lt, rfl⟩
  rintro n s ⟨x, y, z, w, f, rfl, hn, hf, hx, hz, ht⟩
  have hf64 : w64 f := by
    have h := Int.ofNat_le.2 (Nat.pow_le_pow_right (n := 2) (by decide) hn)
    rw [Int.natCast_pow, Int.natCast_pow] at h
    exact ⟨hf.1, Int.lt_of_lt_of_le hf.2 h⟩
  have hf2 : id (0 ≤ f ∧ f < 2 ^ n) := hf
  clear hf
  repeat refine AW.seq ?_
  refine AW.reg ?_
  iterate 2 refine AOL.s1 (h := ?_)
  refine AOL.nil ?_
  refine AW.kq [1, 2, 4, 5, 8] (h := ?_)
  repeat refine AW.seq ?_
  refine AW.cond rfl (fun c_ => ?_) (fun c_ => ?_)
  · have f0 : f > 0 := by simpa using c_
    cases n with
    | zero => exfalso; have := (show _ ∧ _ from hf2).2; simp at this; omega
    | succ n =>
    have bita := and_one hf64.1 hf64.2
    have s1 : f.fdiv (2 ^ min (Int.toNat 1) IntKind.u64.bits) = f / 2 := by rw [show Int.toNat 1 = 1 from rfl, (shr_b (k := 1) hf64 (by decide)).1, Int.pow_one]
    have hf' : 0 ≤ f / 2 ∧ f / 2 < 2 ^ n := by
      have h2 := (show _ ∧ _ from hf2).2
      rw [Int.pow_succ] at h2
      generalize (2:Int) ^ n = N at *
      omega
    have hf'' : id (0 ≤ f / 2 ∧ f / 2 < 2 ^ n) := hf'
    rw [plo, if_pos f0] at ht
    have cO := ext_Mul_c hz.1.w hz.2.w hx.1 hx.2
    have pO := mulE_lt (z, w) (x, y)
    have cA := ext_Mul_c hx.1 hx.2 hx.1 hx.2
    have pA := mulE_lt (x, y) (x, y)
    generalize mulE (z, w) (x, y) = O at *
    generalize mulE (x, y) (x, y) = A at *
    clear hf2 hf' c_
    refine AW.skip ?_
    repeat refine AW.seq ?_
    refine AW.block ?_
    repeat refine AW.seq ?_
    refine AW.reg ?_
    iterate 3 refine AOL.s1 (h := ?_)
    refine AOL.nil ?_
    refine AW.kq [1, 2, 4, 5, 13] (h := ?_)
    repeat refine AW.seq ?_
    refine AW.midK [1, 2, 4, 5] (fun t => ∃ z w, t = ⟨21, [(1, u f), (2, .ptr 1032 0), (4, .ptr 1064 0), (5, .ptr 1080 0)], [(1032, ⟨80, true, [u x, u y]⟩), (1064, ⟨80, true, [u 0, u 0]⟩), (1080, ⟨80, true, [u z, u w]⟩)]⟩ ∧ (lt z ∧ lt w) ∧ plo n A (f / 2) (z, w) = plo 64 (a0, a1) e (1, 0)) ?_ ?_
    · refine AW.cond rfl (fun d_ => ?_) (fun d_ => ?_)
      · have d1 : f % 2 = 1 := by simpa using d_
        rw [if_pos d1] at ht
        clear d1 d_ bita
        repeat refine AW.seq ?_
        refine AW.reg ?_
        iterate 2 refine AOL.s1 (h := ?_)
        refine AOL.callD rfl (cO) (by kernel_rfl) rfl rfl (h := ?_)
        iterate 1 refine AOL.s1 (h := ?_)
        refine AOL.nil ?_
        exact ⟨_, _, rfl, pO, ht⟩
      · have d1 : ¬ f % 2 = 1 := by simpa using d_
        rw [if_neg d1] at ht
        refine AW.skip ?_
        exact ⟨_, _, rfl, hz, ht⟩
    rintro t ⟨z', w', rfl, hz', ht'⟩
    clear ht
    repeat refine AW.seq ?_
    refine AW.reg ?_
    iterate 2 refine AOL.s1 (h := ?_)
    refine AOL.callD rfl (cA) (by kernel_rfl) rfl rfl (h := ?_)
    iterate 1 refine AOL.s1 (h := ?_)
    refine AOL.nil ?_
    repeat refine AW.seq ?_
    refine AW.reg ?_
    iterate 3 refine AOL.s1 (h := ?_)
    refine AOL.nil ?_
    exact ⟨n, by omega, _, _, _, _, _, rfl, by omega, hf'', ltE pA, hz', ht'⟩
  have f0 : f = 0 := by simp at c_; omega
  subst f0
  rw [plo_zero] at ht
  rw [← ht]
  clear ht hf2
  repeat refine AW.seq ?_
  refine AW.exit ?_
  repeat (first | refine Kseq.ex ?_ | refine Kloop.ex ?_ | refine Kblock.miss (by decide) ?_)
  refine Kblock.hit ?_
  refine AW.kq [4, 5] (h := ?_)
  repeat refine AW.seq ?_
  refine AW.reg ?_
  iterate 2 refine AOL.s1 (h := ?_)
  refine AOL.nil ?_
  refine AW.kq [4] (h := ?_)
  repeat refine AW.seq ?_
  refine AW.ret ?_
  refine ⟨_, [], rfl, HOk.nil _, ?_⟩
  rfl
abbrev P3 := Bool × Int × Int
def upE (a b : P3) : Int := if a = b then (3 * (a.2.1 * a.2.1 % 1152921505151057923) % 1152921505151057923 + 1) % 1152921505151057923 else (b.2.2 - a.2.2) % 1152921505151057923
def downE (a b : P3) : Int := if a = b then (a.2.2 + a.2.2) % 1152921505151057923 else (b.2.1 - a.2.1) % 1152921505151057923
def lineE (a b q : P3) : Int × Int :=
  if downE a b = 0 then (1, 0) else ((upE a b * inv 1152921505151057923 (downE a b) % 1152921505151057923 * ((q.2.1 + a.2.1) % 1152921505151057923) % 1152921505151057923 - a.2.2) % 1152921505151057923, q.2.2)
abbrev wP (a : P3) : Prop := lt a.2.1 ∧ lt a.2.2
theorem upE_lt (a b : P3) : lt (upE a b) := by unfold upE; split <;> exact ltm _
theorem downE_lt (a b : P3) : lt (downE a b) := by unfold downE; split <;> exact ltm _
theorem lineE_lt (a b q : P3) (hq : lt q.2.2) : lt (lineE a b q).1 ∧ lt (lineE a b q).2 := by
  unfold lineE; split
  · exact one_lt
  · exact ⟨ltm _, hq⟩
theorem p3_eq {a0 b0 : Bool} {ax ay bx bY : Int} : ((a0 == b0) && ((ax == bx) && (ay == bY))) = decide ((a0, ax, ay) = (b0, bx, bY)) := by
  rw [Bool.eq_iff_iff]; simp
set_option maxHeartbeats 2000000 in
theorem pair_line_c {a0 b0 q0 : Bool} {ax ay bx bY qx qy : Int} (hax : lt ax) (hay : lt ay) (hbx : lt bx) (hby : lt bY) (hqx : lt qx) (hqy : lt qy) : Fn Try.prog 94 [pt (a0, ax, ay), pt (b0, bx, bY), pt (q0, qx, qy)] [] (fun r _ => r = ee (lineE (a0, ax, ay) (b0, bx, bY) (q0, qx, qy))) := by
  have hp := @p3_eq a0 b0 ax ay bx bY
  have eqPt := eqPt
  have hD := downE_lt (a0, ax, ay) (b0, bx, bY)
  have hU := upE_lt (a0, ax, ay) (b0, bx, bY)
  have eL : lineE (a0, ax, ay) (b0, bx, bY) (q0, qx, qy) = if downE (a0, ax, ay) (b0, bx, bY) = 0 then (1, 0) else ((upE (a0, ax, ay) (b0, bx, bY) * inv 1152921505151057923 (downE (a0, ax, ay) (b0, bx, bY)) % 1152921505151057923 * ((qx + ax) % 1152921505151057923) % 1152921505151057923 - ay) % 1152921505151057923, qy) := rfl
  have eU : upE (a0, ax, ay) (b0, bx, bY) = if (a0, ax, ay) = (b0, bx, bY) then (3 * (ax * ax % 1152921505151057923) % 1152921505151057923 + 1) % 1152921505151057923 else (bY - ay) % 1152921505151057923 := rfl
  have eD : downE (a0, ax, ay) (b0, bx, bY) = if (a0, ax, ay) = (b0, bx, bY) then (ay + ay) % 1152921505151057923 else (bx - ax) % 1152921505151057923 := rfl
  rw [eL]
  clear eL
  generalize upE (a0, ax, ay) (b0, bx, bY) = U at *
  generalize downE (a0, ax, ay) (b0, bx, bY) = D at *
  replace eU : id (U = _) := eU
  replace eD : id (D = _) := eD
  refine Fn.enter Try.func94 Try.ntmps94 rfl (h := ?_)
  have tf := tf
  have tfe := tfe
  repeat refine AW.seq ?_
  refine AW.reg ?_
  iterate 4 refine AOL.s1 (h := ?_)
  refine AOL.nil ?_
  refine AW.kq [3, 4, 5, 6] (h := ?_)
  repeat refine AW.seq ?_
  refine AW.drw 9 [] (by kernel_rfl) (h := ?_)
  iterate 4 refine ADL.dm 1 (h := ?_)
  refine ADL.call rfl (modular_Sub_c mdP hby.w hay.w) (by kernel_rfl) rfl rfl (h := ?_)
  iterate 4 refine ADL.dm 1 (h := ?_)
  refine ADL.done hmix rfl rfl (hT := ?_)
  refine AOL.callD rfl (modular_Sub_c mdP hbx.w hax.w) (by kernel_rfl) rfl rfl (h := ?_)
  iterate 2 refine AOL.s1 (h := ?_)
  refine AOL.nil ?_
  refine AW.kq [3, 4, 5, 6, 7, 8] (h := ?_)
  repeat refine AW.seq ?_
  refine AW.reg ?_
  iterate 3 refine AOL.s1 (h := ?_)
  refine AOL.nil ?_
  refine AW.kq [3, 5, 6, 7, 8, 25] (h := ?_)
  repeat refine AW.seq ?_
  refine AW.midK [3, 5, 6, 7, 8] (fun t => t = ⟨63, [(3, .ptr 1048 0), (5, .ptr 1080 0), (6, .ptr 1096 0), (7, u U), (8, u D)], [(1048, ⟨32, true, [bo a0, u ax, u ay]⟩), (1064, ⟨32, true, [bo b0, u bx, u bY]⟩), (1080, ⟨32, true, [bo q0, u qx, u qy]⟩), (1096, ⟨80, true, [u 0, u 0]⟩)]⟩) ?_ ?_
  · refine AW.cond rfl (fun c_ => ?_) (fun c_ => ?_)
    · have c1 : (a0, ax, ay) = (b0, bx, bY) := by simpa using c_
      replace eU : U = _ := eU
      replace eD : D = _ := eD
      rw [if_pos c1] at eU eD
      clear c1 c_ hp
      have cS := modular_Add_c (a := ay) (b := ay) mdP hay.w hay.w
      rw [← eD] at cS
      have cU := modular_Add_c (a := 3 * (ax * ax % 1152921505151057923) % 1152921505151057923) (b := 1) mdP (ltm _).w (by decide)
      rw [← eU] at cU
      clear eU eD
      repeat refine AW.seq ?_
      refine AW.drw 11 [] (by kernel_rfl) (h := ?_)
      iterate 4 refine ADL.dm 1 (h := ?_)
      refine ADL.call rfl (modular_Mul_c mdP hax.w hax.w) (by kernel_rfl) rfl rfl (h := ?_)
      refine ADL.call rfl (modular_Mul_c mdP (by decide) (ltm _).w) (by kernel_rfl) rfl rfl (h := ?_)
      refine ADL.call rfl (cU) (by kernel_rfl) rfl rfl (h := ?_)
      iterate 4 refine ADL.dm 1 (h := ?_)
      refine ADL.done hmix rfl rfl (hT := ?_)
      refine AOL.callD rfl (cS) (by kernel_rfl) rfl rfl (h := ?_)
      iterate 2 refine AOL.s1 (h := ?_)
      refine AOL.nil ?_
      exact (rfl : (_ : St) = _)
    · have c1 : ¬ (a0, ax, ay) = (b0, bx, bY) := by
        intro h; rw [decide_eq_true h] at c_; cases c_
      replace eU : U = _ := eU
      replace eD : D = _ := eD
      rw [if_neg c1] at eU eD
      refine AW.skip ?_
      rw [eU, eD]; exact (rfl : (_ : St) = _)
  rintro t rfl
  clear hp eU eD
  have ci := modular_Inv_c (m := 1152921505151057923) (a := D) prmP hD.w
  rw [hD.self] at ci
  by_cases d0 : D = 0
  · rw [if_pos d0] at ci ⊢
    clear d0
    repeat refine AW.seq ?_
    refine AW.reg ?_
    iterate 1 refine AOL.s1 (h := ?_)
    refine AOL.callD rfl (ci) (by kernel_rfl) rfl rfl (h := ?_)
    iterate 5 refine AOL.s1 (h := ?_)
    refine AOL.nil ?_
    refine AW.kq [3, 5, 6, 7, 9, 10] (h := ?_)
    repeat refine AW.seq ?_
    refine AW.reg ?_
    iterate 2 refine AOL.s1 (h := ?_)
    refine AOL.nil ?_
    refine AW.kq [3, 5, 6, 7, 9, 44] (h := ?_)
    repeat refine AW.seq ?_
    refine AW.cond rfl (fun c_ => ?_) (fun c_ => ?_)
    · repeat refine AW.seq ?_
      refine AW.reg ?_
      iterate 2 refine AOL.s1 (h := ?_)
      refine AOL.nil ?_
      refine AW.kq [6] (h := ?_)
      repeat refine AW.seq ?_
      refine AW.ret ?_
      refine ⟨_, [], rfl, HOk.nil _, ?_⟩
      rfl
    · cases c_
  rw [if_neg d0] at ci ⊢
  have hi := (K_inv hD d0).2
  clear d0
  generalize inv 1152921505151057923 D = I at *
  repeat refine AW.seq ?_
  refine AW.reg ?_
  iterate 1 refine AOL.s1 (h := ?_)
  refine AOL.callD rfl (ci) (by kernel_rfl) rfl rfl (h := ?_)
  iterate 5 refine AOL.s1 (h := ?_)
  refine AOL.nil ?_
  refine AW.kq [3, 5, 6, 7, 9, 10] (h := ?_)
  repeat refine AW.seq ?_
  refine AW.reg ?_
  iterate 2 refine AOL.s1 (h := ?_)
  refine AOL.nil ?_
  refine AW.kq [3, 5, 6, 7, 9, 44] (h := ?_)
  repeat refine AW.seq ?_
  refine AW.cond rfl (fun c_ => ?_) (fun c_ => ?_)
  · cases c_
  refine AW.skip ?_
  repeat refine AW.seq ?_
  refine AW.reg ?_
  iterate 2 refine AOL.s1 (h := ?_)
  refine AOL.callD rfl (modular_Mul_c mdP hU.w hi.w) (by kernel_rfl) rfl rfl (h := ?_)
  iterate 1 refine AOL.s1 (h := ?_)
  refine AOL.nil ?_
  refine AW.kq [3, 5, 6, 11] (h := ?_)
  repeat refine AW.seq ?_
  refine AW.reg ?_
  iterate 5 refine AOL.s1 (h := ?_)
  refine AOL.callD rfl (modular_Add_c mdP hqx.w hax.w) (by kernel_rfl) rfl rfl (h := ?_)
  refine AOL.callD rfl (modular_Mul_c mdP (ltm _).w (ltm _).w) (by kernel_rfl) rfl rfl (h := ?_)
  iterate 1 refine AOL.s1 (h := ?_)
  refine AOL.nil ?_
  refine AW.kq [3, 5, 6, 12] (h := ?_)
  repeat refine AW.seq ?_
  refine AW.drw 6 [] (by kernel_rfl) (h := ?_)
  iterate 3 refine ADL.dm 1 (h := ?_)
  refine ADL.call rfl (modular_Sub_c mdP (ltm _).w hay.w) (by kernel_rfl) rfl rfl (h := ?_)
  iterate 2 refine ADL.dm 1 (h := ?_)
  refine ADL.done hmix rfl rfl (hT := ?_)
  iterate 2 refine AOL.s1 (h := ?_)
  refine AOL.nil ?_
  refine AW.kq [6] (h := ?_)
  repeat refine AW.seq ?_
  refine AW.ret ?_
  refine ⟨_, [], rfl, HOk.nil _, ?_⟩
  rfl
theorem math_bits_Len64_c {a : Int} (ha : w64 a) : Fn Try.prog 93 [u a] [] (fun r _ => r = i (Lib.bitLen a.toNat : Int)) := by
  refine Fn.ofCalls (args := [.int .u64 a]) (v := .int .i64 (Lib.bitLen a.toNat : Int)) ?_ rfl ?_
  · intro ρ F w vs h
    simp only [VRs, VR] at h
    obtain ⟨_, _, rfl, rfl, rfl⟩ := h; rfl
  · exact fun w => (Try.bits_Len64 a w ha.1 (by omega)).mono fun e w' h => by
      obtain ⟨rfl, rfl⟩ := h
      exact ⟨rfl, .refl _ _⟩
theorem sureP_of {t : P3} (h : Pt t) : sureP t.1 t.2.1 t.2.2 = t := sureP_self h
/-- one round of a turn -/
def roundE (a q : P3) (i : Nat) (s : (Int × Int) × P3) : (Int × Int) × P3 :=
  if (288230376287764481 : Int) / 2 ^ i % 2 = 1 then (mulE (mulE (mulE s.1 s.1) (lineE s.2 s.2 q)) (lineE (sumP s.2 s.2) a q), sumP (sumP s.2 s.2) a)
  else (mulE (mulE s.1 s.1) (lineE s.2 s.2 q), sumP s.2 s.2)
def trn (a q : P3) : Nat → (Int × Int) × P3 → (Int × Int) × P3
  | 0, s => s
  | i + 1, s => trn a q i (roundE a q i s)
def turnE (a q : P3) : Int × Int := (trn a q 58 ((1, 0), a)).1
theorem bitR {n : Nat} (h : n < 58) : w64 (288230376287764481 / 2 ^ n) := (shr_b (y := 288230376287764481) (k := n) ⟨by decide, by decide⟩ (by omega)).2
set_option maxHeartbeats 2000000 in
theorem pair_turn_c {a0 q0 : Bool} {ax ay qx qy : Int} (ha : Pt (a0, ax, ay)) (hq : Pt (q0, qx, qy)) : Fn Try.prog 85 [pt (a0, ax, ay), pt (q0, qx, qy)] [] (fun r _ => r = ee (turnE (a0, ax, ay) (q0, qx, qy))) := by
  have hqw := hq.wx
  have haw := ha.wx
  have cl := math_bits_Len64_c (a := 288230376287764481) ⟨by decide, by decide⟩
  rw [show (Lib.bitLen (288230376287764481 : Int).toNat : Int) = 59 by decide] at cl
  refine Fn.enter Try.func85 Try.ntmps85 rfl (h := ?_)
  have tf := tf
  have tfe := tfe
  repeat refine AW.seq ?_
  refine AW.reg ?_
  iterate 3 refine AOL.s1 (h := ?_)
  refine AOL.nil ?_
  refine AW.kq [2, 3, 4] (h := ?_)
  repeat refine AW.seq ?_
  refine AW.anyO (st1 := ⟨41, [(2, .ptr 1032 0), (3, .ptr 1048 0), (4, .ptr 1064 0), (5, .ptr 1080 0), (6, .ptr 1096 0), (8, .agg [u 1, u 0]), (9, .agg [bo a0, u ax, u ay])], [(1032, ⟨32, true, [bo a0, u ax, u ay]⟩), (1048, ⟨32, true, [bo q0, u qx, u qy]⟩), (1064, ⟨80, true, [u 0, u 0]⟩), (1080, ⟨80, true, [u 1, u 0]⟩), (1096, ⟨32, true, [bo a0, u ax, u ay]⟩)]⟩) hmix ?_ ?_
  · refine AAny.step [0, 1, 2, 3] (by kernel_rfl) rfl ?_
    refine AAll.cons rfl (h1 := ?_) (h2 := ?_)
    refine AAny.step [1, 2, 3] (by kernel_rfl) rfl ?_
    refine AAll.cons rfl (h1 := ?_) (h2 := ?_)
    refine AAny.step [2, 3] (by kernel_rfl) rfl ?_
    refine AAll.cons rfl (h1 := ?_) (h2 := ?_)
    refine AAny.step [3] (by kernel_rfl) rfl ?_
    refine AAll.cons rfl (h1 := ?_) (h2 := ?_)
    refine AAny.step [4] (by kernel_rfl) rfl ?_
    refine AAll.cons rfl (h1 := ?_) (h2 := ?_)
    refine AAny.step [5] (by kernel_rfl) rfl ?_
    refine AAll.cons rfl (h1 := ?_) (h2 := ?_)
    exact AAny.done (by kernel_rfl) rfl
    exact AAll.nil
    exact AAll.nil
    exact AAll.nil
    refine AAll.cons rfl (h1 := ?_) (h2 := ?_)
    refine AAny.step [2] (by kernel_rfl) rfl ?_
    refine AAll.cons rfl (h1 := ?_) (h2 := ?_)
    refine AAny.step [4] (by kernel_rfl) rfl ?_
    refine AAll.cons rfl (h1 := ?_) (h2 := ?_)
    refine AAny.step [5] (by kernel_rfl) rfl ?_
    refine AAll.cons rfl (h1 := ?_) (h2 := ?_)
    exact AAny.done (by kernel_rfl) rfl
    exact AAll.nil
    exact AAll.nil
    exact AAll.nil
    exact AAll.nil
    refine AAll.cons rfl (h1 := ?_) (h2 := ?_)
    refine AAny.step [1, 3] (by kernel_rfl) rfl ?_
    refine AAll.cons rfl (h1 := ?_) (h2 := ?_)
    refine AAny.step [3] (by kernel_rfl) rfl ?_
    refine AAll.cons rfl (h1 := ?_) (h2 := ?_)
    refine AAny.step [4] (by kernel_rfl) rfl ?_
    refine AAll.cons rfl (h1 := ?_) (h2 := ?_)
    refine AAny.step [5] (by kernel_rfl) rfl ?_
    refine AAll.cons rfl (h1 := ?_) (h2 := ?_)
    exact AAny.done (by kernel_rfl) rfl
    exact AAll.nil
    exact AAll.nil
    exact AAll.nil
    refine AAll.cons rfl (h1 := ?_) (h2 := ?_)
    refine AAny.step [1, 4] (by kernel_rfl) rfl ?_
    refine AAll.cons rfl (h1 := ?_) (h2 := ?_)
    refine AAny.step [4] (by kernel_rfl) rfl ?_
    refine AAll.cons rfl (h1 := ?_) (h2 := ?_)
    refine AAny.step [5] (by kernel_rfl) rfl ?_
    refine AAll.cons rfl (h1 := ?_) (h2 := ?_)
    exact AAny.done (by kernel_rfl) rfl
    exact AAll.nil
    exact AAll.nil
    refine AAll.cons rfl (h1 := ?_) (h2 := ?_)
    refine AAny.step [1] (by kernel_rfl) rfl ?_
    refine AAll.cons rfl (h1 := ?_) (h2 := ?_)
    refine AAny.step [5] (by kernel_rfl) rfl ?_
    refine AAll.cons rfl (h1 := ?_) (h2 := ?_)
    exact AAny.done (by kernel_rfl) rfl
    exact AAll.nil
    exact AAll.nil
    exact AAll.nil
    exact AAll.nil
    refine AAll.cons rfl (h1 := ?_) (h2 := ?_)
    refine AAny.step [1, 2] (by kernel_rfl) rfl ?_
    refine AAll.cons rfl (h1 := ?_) (h2 := ?_)
    refine AAny.step [2] (by kernel_rfl) rfl ?_
    refine AAll.cons rfl (h1 := ?_) (h2 := ?_)
    refine AAny.step [4] (by kernel_rfl) rfl ?_
    refine AAll.cons rfl (h1 := ?_) (h2 := ?_)
    refine AAny.step [5] (by kernel_rfl) rfl ?_
    refine AAll.cons rfl (h1 := ?_) (h2 := ?_)
    exact AAny.done (by kernel_rfl) rfl
    exact AAll.nil
    exact AAll.nil
    exact AAll.nil
    refine AAll.cons rfl (h1 := ?_) (h2 := ?_)
    refine AAny.step [1, 4] (by kernel_rfl) rfl ?_
    refine AAll.cons rfl (h1 := ?_) (h2 := ?_)
    refine AAny.step [4] (by kernel_rfl) rfl ?_
    refine AAll.cons rfl (h1 := ?_) (h2 := ?_)
    refine AAny.step [5] (by kernel_rfl) rfl ?_
    refine AAll.cons rfl (h1 := ?_) (h2 := ?_)
    exact AAny.done (by kernel_rfl) rfl
    exact AAll.nil
    exact AAll.nil
    refine AAll.cons rfl (h1 := ?_) (h2 := ?_)
    refine AAny.step [1] (by kernel_rfl) rfl ?_
    refine AAll.cons rfl (h1 := ?_) (h2 := ?_)
    refine AAny.step [5] (by kernel_rfl) rfl ?_
    refine AAll.cons rfl (h1 := ?_) (h2 := ?_)
    exact AAny.done (by kernel_rfl) rfl
    exact AAll.nil
    exact AAll.nil
    exact AAll.nil
    exact AAll.nil
    exact AAll.nil
    refine AAll.cons rfl (h1 := ?_) (h2 := ?_)
    refine AAny.step [0, 2, 3] (by kernel_rfl) rfl ?_
    refine AAll.cons rfl (h1 := ?_) (h2 := ?_)
    refine AAny.step [2, 3] (by kernel_rfl) rfl ?_
    refine AAll.cons rfl (h1 := ?_) (h2 := ?_)
    refine AAny.step [3] (by kernel_rfl) rfl ?_
    refine AAll.cons rfl (h1 := ?_) (h2 := ?_)
    refine AAny.step [4] (by kernel_rfl) rfl ?_
    refine AAll.cons rfl (h1 := ?_) (h2 := ?_)
    refine AAny.step [5] (by kernel_rfl) rfl ?_
    refine AAll.cons rfl (h1 := ?_) (h2 := ?_)
    exact AAny.done (by kernel_rfl) rfl
    exact AAll.nil
    exact AAll.nil
    exact AAll.nil
    refine AAll.cons rfl (h1 := ?_) (h2 := ?_)
    refine AAny.step [2] (by kernel_rfl) rfl ?_
    refine AAll.cons rfl (h1 := ?_) (h2 := ?_)
    refine AAny.step [4] (by kernel_rfl) rfl ?_
    refine AAll.cons rfl (h1 := ?_) (h2 := ?_)
    refine AAny.step [5] (by kernel_rfl) rfl ?_
    refine AAll.cons rfl (h1 := ?_) (h2 := ?_)
    exact AAny.done (by kernel_rfl) rfl
    exact AAll.nil
    exact AAll.nil
    exact AAll.nil
    exact AAll.nil
    refine AAll.cons rfl (h1 := ?_) (h2 := ?_)
    refine AAny.step [0, 3] (by kernel_rfl) rfl ?_
    refine AAll.cons rfl (h1 := ?_) (h2 := ?_)
    refine AAny.step [3] (by kernel_rfl) rfl ?_
    refine AAll.cons rfl (h1 := ?_) (h2 := ?_)
    refine AAny.step [4] (by kernel_rfl) rfl ?_
    refine AAll.cons rfl (h1 := ?_) (h2 := ?_)
    refine AAny.step [5] (by kernel_rfl) rfl ?_
    refine AAll.cons rfl (h1 := ?_) (h2 := ?_)
    exact AAny.done (by kernel_rfl) rfl
    exact AAll.nil
    exact AAll.nil
    exact AAll.nil
    refine AAll.cons rfl (h1 := ?_) (h2 := ?_)
    refine AAny.step [0] (by kernel_rfl) rfl ?_
    refine AAll.cons rfl (h1 := ?_) (h2 := ?_)
    refine AAny.step [4] (by kernel_rfl) rfl ?_
    refine AAll.cons rfl (h1 := ?_) (h2 := ?_)
    refine AAny.step [5] (by kernel_rfl) rfl ?_
    refine AAll.cons rfl (h1 := ?_) (h2 := ?_)
    exact AAny.done (by kernel_rfl) rfl
    exact AAll.nil
    exact AAll.nil
    exact AAll.nil
    exact AAll.nil
    refine AAll.cons rfl (h1 := ?_) (h2 := ?_)
    refine AAny.step [0, 2] (by kernel_rfl) rfl ?_
    refine AAll.cons rfl (h1 := ?_) (h2 := ?_)
    refine AAny.step [2] (by kernel_rfl) rfl ?_
    refine AAll.cons rfl (h1 := ?_) (h2 := ?_)
    refine AAny.step [4] (by kernel_rfl) rfl ?_
    refine AAll.cons rfl (h1 := ?_) (h2 := ?_)
    refine AAny.step [5] (by kernel_rfl) rfl ?_
    refine AAll.cons rfl (h1 := ?_) (h2 := ?_)
    exact AAny.done (by kernel_rfl) rfl
    exact AAll.nil
    exact AAll.nil
    exact AAll.nil
    refine AAll.cons rfl (h1 := ?_) (h2 := ?_)
    refine AAny.step [0] (by kernel_rfl) rfl ?_
    refine AAll.cons rfl (h1 := ?_) (h2 := ?_)
    refine AAny.step [4] (by kernel_rfl) rfl ?_
    refine AAll.cons rfl (h1 := ?_) (h2 := ?_)
    refine AAny.step [5] (by kernel_rfl) rfl ?_
    refine AAll.cons rfl (h1 := ?_) (h2 := ?_)
    exact AAny.done (by kernel_rfl) rfl
    exact AAll.nil
    exact AAll.nil
    exact AAll.nil
    exact AAll.nil
    exact AAll.nil
    refine AAll.cons rfl (h1 := ?_) (h2 := ?_)
    refine AAny.step [0, 1, 3] (by kernel_rfl) rfl ?_
    refine AAll.cons rfl (h1 := ?_) (h2 := ?_)
    refine AAny.step [1, 3] (by kernel_rfl) rfl ?_
    refine AAll.cons rfl (h1 := ?_) (h2 := ?_)
    refine AAny.step [3] (by kernel_rfl) rfl ?_
    refine AAll.cons rfl (h1 := ?_) (h2 := ?_)
    refine AAny.step [4] (by kernel_rfl) rfl ?_
    refine AAll.cons rfl (h1 := ?_) (h2 := ?_)
    refine AAny.step [5] (by kernel_rfl) rfl ?_
    refine AAll.cons rfl (h1 := ?_) (h2 := ?_)
    exact AAny.done (by kernel_rfl) rfl
    exact AAll.nil
    exact AAll.nil
    exact AAll.nil
    refine AAll.cons rfl (h1 := ?_) (h2 := ?_)
    refine AAny.step [1, 4] (by kernel_rfl) rfl ?_
    refine AAll.cons rfl (h1 := ?_) (h2 := ?_)
    refine AAny.step [4] (by kernel_rfl) rfl ?_
    refine AAll.cons rfl (h1 := ?_) (h2 := ?_)
    refine AAny.step [5] (by kernel_rfl) rfl ?_
    refine AAll.cons rfl (h1 := ?_) (h2 := ?_)
    exact AAny.done (by kernel_rfl) rfl
    exact AAll.nil
    exact AAll.nil
    refine AAll.cons rfl (h1 := ?_) (h2 := ?_)
    refine AAny.step [1] (by kernel_rfl) rfl ?_
    refine AAll.cons rfl (h1 := ?_) (h2 := ?_)
    refine AAny.step [5] (by kernel_rfl) rfl ?_
    refine AAll.cons rfl (h1 := ?_) (h2 := ?_)
    exact AAny.done (by kernel_rfl) rfl
    exact AAll.nil
    exact AAll.nil
    exact AAll.nil
    exact AAll.nil
    refine AAll.cons rfl (h1 := ?_) (h2 := ?_)
    refine AAny.step [0, 3] (by kernel_rfl) rfl ?_
    refine AAll.cons rfl (h1 := ?_) (h2 := ?_)
    refine AAny.step [3] (by kernel_rfl) rfl ?_
    refine AAll.cons rfl (h1 := ?_) (h2 := ?_)
    refine AAny.step [4] (by kernel_rfl) rfl ?_
    refine AAll.cons rfl (h1 := ?_) (h2 := ?_)
    refine AAny.step [5] (by kernel_rfl) rfl ?_
    refine AAll.cons rfl (h1 := ?_) (h2 := ?_)
    exact AAny.done (by kernel_rfl) rfl
    exact AAll.nil
    exact AAll.nil
    exact AAll.nil
    refine AAll.cons rfl (h1 := ?_) (h2 := ?_)
    refine AAny.step [0] (by kernel_rfl) rfl ?_
    refine AAll.cons rfl (h1 := ?_) (h2 := ?_)
    refine AAny.step [4] (by kernel_rfl) rfl ?_
    refine AAll.cons rfl (h1 := ?_) (h2 := ?_)
    refine AAny.step [5] (by kernel_rfl) rfl ?_
    refine AAll.cons rfl (h1 := ?_) (h2 := ?_)
    exact AAny.done (by kernel_rfl) rfl
    exact AAll.nil
    exact AAll.nil
    exact AAll.nil
    exact AAll.nil
    refine AAll.cons rfl (h1 := ?_) (h2 := ?_)
    refine AAny.step [0, 1] (by kernel_rfl) rfl ?_
    refine AAll.cons rfl (h1 := ?_) (h2 := ?_)
    refine AAny.step [1, 4] (by kernel_rfl) rfl ?_
    refine AAll.cons rfl (h1 := ?_) (h2 := ?_)
    refine AAny.step [4] (by kernel_rfl) rfl ?_
    refine AAll.cons rfl (h1 := ?_) (h2 := ?_)
    refine AAny.step [5] (by kernel_rfl) rfl ?_
    refine AAll.cons rfl (h1 := ?_) (h2 := ?_)
    exact AAny.done (by kernel_rfl) rfl
    exact AAll.nil
    exact AAll.nil
    refine AAll.cons rfl (h1 := ?_) (h2 := ?_)
    refine AAny.step [1] (by kernel_rfl) rfl ?_
    refine AAll.cons rfl (h1 := ?_) (h2 := ?_)
    refine AAny.step [5] (by kernel_rfl) rfl ?_
    refine AAll.cons rfl (h1 := ?_) (h2 := ?_)
    exact AAny.done (by kernel_rfl) rfl
    exact AAll.nil
    exact AAll.nil
    exact AAll.nil
    refine AAll.cons rfl (h1 := ?_) (h2 := ?_)
    refine AAny.step [0] (by kernel_rfl) rfl ?_
    refine AAll.cons rfl (h1 := ?_) (h2 := ?_)
    refine AAny.step [4] (by kernel_rfl) rfl ?_
    refine AAll.cons rfl (h1 := ?_) (h2 := ?_)
    refine AAny.step [5] (by kernel_rfl) rfl ?_
    refine AAll.cons rfl (h1 := ?_) (h2 := ?_)
    exact AAny.done (by kernel_rfl) rfl
    exact AAll.nil
    exact AAll.nil
    exact AAll.nil
    exact AAll.nil
    exact AAll.nil
    refine AAll.cons rfl (h1 := ?_) (h2 := ?_)
    refine AAny.step [0, 1, 2] (by kernel_rfl) rfl ?_
    refine AAll.cons rfl (h1 := ?_) (h2 := ?_)
    refine AAny.step [1, 2] (by kernel_rfl) rfl ?_
    refine AAll.cons rfl (h1 := ?_) (h2 := ?_)
    refine AAny.step [2] (by kernel_rfl) rfl ?_
    refine AAll.cons rfl (h1 := ?_) (h2 := ?_)
    refine AAny.step [4] (by kernel_rfl) rfl ?_
    refine AAll.cons rfl (h1 := ?_) (h2 := ?_)
    refine AAny.step [5] (by kernel_rfl) rfl ?_
    refine AAll.cons rfl (h1 := ?_) (h2 := ?_)
    exact AAny.done (by kernel_rfl) rfl
    exact AAll.nil
    exact AAll.nil
    exact AAll.nil
    refine AAll.cons rfl (h1 := ?_) (h2 := ?_)
    refine AAny.step [1, 4] (by kernel_rfl) rfl ?_
    refine AAll.cons rfl (h1 := ?_) (h2 := ?_)
    refine AAny.step [4] (by kernel_rfl) rfl ?_
    refine AAll.cons rfl (h1 := ?_) (h2 := ?_)
    refine AAny.step [5] (by kernel_rfl) rfl ?_
    refine AAll.cons rfl (h1 := ?_) (h2 := ?_)
    exact AAny.done (by kernel_rfl) rfl
    exact AAll.nil
    exact AAll.nil
    refine AAll.cons rfl (h1 := ?_) (h2 := ?_)
    refine AAny.step [1] (by kernel_rfl) rfl ?_
    refine AAll.cons rfl (h1 := ?_) (h2 := ?_)
    refine AAny.step [5] (by kernel_rfl) rfl ?_
    refine AAll.cons rfl (h1 := ?_) (h2 := ?_)
    exact AAny.done (by kernel_rfl) rfl
    exact AAll.nil
    exact AAll.nil
    exact AAll.nil
    exact AAll.nil
    refine AAll.cons rfl (h1 := ?_) (h2 := ?_)
    refine AAny.step [0, 2] (by kernel_rfl) rfl ?_
    refine AAll.cons rfl (h1 := ?_) (h2 := ?_)
    refine AAny.step [2] (by kernel_rfl) rfl ?_
    refine AAll.cons rfl (h1 := ?_) (h2 := ?_)
    refine AAny.step [4] (by kernel_rfl) rfl ?_
    refine AAll.cons rfl (h1 := ?_) (h2 := ?_)
    refine AAny.step [5] (by kernel_rfl) rfl ?_
    refine AAll.cons rfl (h1 := ?_) (h2 := ?_)
    exact AAny.done (by kernel_rfl) rfl
    exact AAll.nil
    exact AAll.nil
    exact AAll.nil
    refine AAll.cons rfl (h1 := ?_) (h2 := ?_)
    refine AAny.step [0] (by kernel_rfl) rfl ?_
    refine AAll.cons rfl (h1 := ?_) (h2 := ?_)
    refine AAny.step [4] (by kernel_rfl) rfl ?_
    refine AAll.cons rfl (h1 := ?_) (h2 := ?_)
    refine AAny.step [5] (by kernel_rfl) rfl ?_
    refine AAll.cons rfl (h1 := ?_) (h2 := ?_)
    exact AAny.done (by kernel_rfl) rfl
    exact AAll.nil
    exact AAll.nil
    exact AAll.nil
    exact AAll.nil
    refine AAll.cons rfl (h1 := ?_) (h2 := ?_)
    refine AAny.step [0, 1] (by kernel_rfl) rfl ?_
    refine AAll.cons rfl (h1 := ?_) (h2 := ?_)
    refine AAny.step [1, 4] (by kernel_rfl) rfl ?_
    refine AAll.cons rfl (h1 := ?_) (h2 := ?_)
    refine AAny.step [4] (by kernel_rfl) rfl ?_
    refine AAll.cons rfl (h1 := ?_) (h2 := ?_)
    refine AAny.step [5] (by kernel_rfl) rfl ?_
    refine AAll.cons rfl (h1 := ?_) (h2 := ?_)
    exact AAny.done (by kernel_rfl) rfl
    exact AAll.nil
    exact AAll.nil
    refine AAll.cons rfl (h1 := ?_) (h2 := ?_)
    refine AAny.step [1] (by kernel_rfl) rfl ?_
    refine AAll.cons rfl (h1 := ?_) (h2 := ?_)
    refine AAny.step [5] (by kernel_rfl) rfl ?_
    refine AAll.cons rfl (h1 := ?_) (h2 := ?_)
    exact AAny.done (by kernel_rfl) rfl
    exact AAll.nil
    exact AAll.nil
    exact AAll.nil
    refine AAll.cons rfl (h1 := ?_) (h2 := ?_)
    refine AAny.step [0] (by kernel_rfl) rfl ?_
    refine AAll.cons rfl (h1 := ?_) (h2 := ?_)
    refine AAny.step [4] (by kernel_rfl) rfl ?_
    refine AAll.cons rfl (h1 := ?_) (h2 := ?_)
    refine AAny.step [5] (by kernel_rfl) rfl ?_
    refine AAll.cons rfl (h1 := ?_) (h2 := ?_)
    exact AAny.done (by kernel_rfl) rfl
    exact AAll.nil
    exact AAll.nil
    exact AAll.nil
    exact AAll.nil
    exact AAll.nil
    exact AAll.nil
  refine AW.kq [2, 3, 4, 5, 6] (h := ?_)
  repeat refine AW.seq ?_
  have w57 : IntKind.i64.wrap (59 - 2) = 57 := by decide
  refine AW.reg ?_
  refine AOL.callD rfl (cl) (by kernel_rfl) rfl rfl (h := ?_)
  iterate 2 refine AOL.s1 (h := ?_)
  refine AOL.nil ?_
  refine AW.kq [2, 3, 4, 5, 6, 7] (h := ?_)
  repeat refine AW.seq ?_
  refine AW.block ?_
  repeat refine AW.seq ?_
  refine AW.loopK [2, 3, 4, 5, 6, 7] (fun n s => ∃ (f0 f1 : Int) (t0 : Bool) (tx ty : Int), s = ⟨41, [(2, .ptr 1032 0), (3, .ptr 1048 0), (4, .ptr 1064 0), (5, .ptr 1080 0), (6, .ptr 1096 0), (7, i ((n : Int) - 1))], [(1032, ⟨32, true, [bo a0, u ax, u ay]⟩), (1048, ⟨32, true, [bo q0, u qx, u qy]⟩), (1064, ⟨80, true, [u 0, u 0]⟩), (1080, ⟨80, true, [u f0, u f1]⟩), (1096, ⟨32, true, [bo t0, u tx, u ty]⟩)]⟩ ∧ n ≤ 58 ∧ (lt f0 ∧ lt f1) ∧ Pt (t0, tx, ty) ∧ (trn (a0, ax, ay) (q0, qx, qy) n ((f0, f1), (t0, tx, ty))).1 = turnE (a0, ax, ay) (q0, qx, qy)) 58 ?_ ?_
  · exact ⟨1, 0, a0, ax, ay, rfl, Nat.le_refl _, one_lt, ha, rfl⟩
  rintro n s ⟨f0, f1, t0, tx, ty, rfl, hn, hf, ht, he⟩
  repeat refine AW.seq ?_
  cases n with
  | zero =>
    have c0 : decide (((0 : Nat) : Int) - 1 ≥ 0) = false := by decide
    have he : turnE (a0, ax, ay) (q0, qx, qy) = (f0, f1) := he.symm
    rw [he]
    refine AW.reg ?_
    iterate 2 refine AOL.s1 (h := ?_)
    refine AOL.nil ?_
    refine AW.kq [2, 3, 4, 5, 6, 7, 13] (h := ?_)
    repeat refine AW.seq ?_
    refine AW.cond rfl (fun c_ => ?_) (fun c_ => ?_)
    · cases c_
    clear c0 c_ he
    repeat refine AW.seq ?_
    refine AW.exit ?_
    repeat (first | refine Kseq.ex ?_ | refine Kloop.ex ?_ | refine Kblock.miss (by decide) ?_)
    refine Kblock.hit ?_
    refine AW.kq [4, 5] (h := ?_)
    repeat refine AW.seq ?_
    refine AW.reg ?_
    iterate 2 refine AOL.s1 (h := ?_)
    refine AOL.nil ?_
    refine AW.kq [4] (h := ?_)
    repeat refine AW.seq ?_
    refine AW.ret ?_
    refine ⟨_, [], rfl, HOk.nil _, ?_⟩
    rfl
  | succ n =>
    have e0 : ((n + 1 : Nat) : Int) - 1 = n := by omega
    have c0 : decide ((n : Int) ≥ 0) = true := by simp
    have e1 : IntKind.i64.wrap ((n : Int) - 1) = (n : Int) - 1 := wrapI_o (by omega) (by omega)
    obtain ⟨sh1, sh2⟩ := shr_b (y := 288230376287764481) (k := n) ⟨by decide, by decide⟩ (by omega)
    have sh3 := and_one sh2.1 sh2.2
    have n0 : ¬ (n : Int) < 0 := by omega
    have he : (trn (a0, ax, ay) (q0, qx, qy) n (if (288230376287764481 : Int) / 2 ^ n % 2 = 1 then (mulE (mulE (mulE (f0, f1) (f0, f1)) (lineE (t0, tx, ty) (t0, tx, ty) (q0, qx, qy))) (lineE (sumP (t0, tx, ty) (t0, tx, ty)) (a0, ax, ay) (q0, qx, qy)), sumP (sumP (t0, tx, ty) (t0, tx, ty)) (a0, ax, ay)) else (mulE (mulE (f0, f1) (f0, f1)) (lineE (t0, tx, ty) (t0, tx, ty) (q0, qx, qy)), sumP (t0, tx, ty) (t0, tx, ty)))).1 = turnE (a0, ax, ay) (q0, qx, qy) := he
    have hbit : ∃ bit : Int, (288230376287764481 : Int) / 2 ^ n % 2 = bit := ⟨_, rfl⟩
    obtain ⟨bit, hbit⟩ := hbit
    rw [hbit] at he sh3
    clear hbit
    have htw := ht.wx
    have cff := ext_Mul_c hf.1.w hf.2.w hf.1.w hf.2.w
    have cl1 := pair_line_c (a0 := t0) (b0 := t0) (q0 := q0) htw.1 htw.2 htw.1 htw.2 hqw.1 hqw.2
    have pl1 := lineE_lt (t0, tx, ty) (t0, tx, ty) (q0, qx, qy) hqw.2
    have pff := mulE_lt (f0, f1) (f0, f1)
    have ctt := curve_Add_c (a0 := t0) (b0 := t0) htw.1.w htw.2.w htw.1.w htw.2.w
    rw [sureP_self ht] at ctt
    have ptt := sumP_pt ht ht
    generalize lineE (t0, tx, ty) (t0, tx, ty) (q0, qx, qy) = L at *
    generalize mulE (f0, f1) (f0, f1) = F at *
    generalize sumP (t0, tx, ty) (t0, tx, ty) = T at *
    obtain ⟨T0, T1, T2⟩ := T
    obtain ⟨L0, L1⟩ := L
    obtain ⟨F0, F1⟩ := F
    have cfl := ext_Mul_c pff.1.w pff.2.w pl1.1.w pl1.2.w
    have pfl := mulE_lt (F0, F1) (L0, L1)
    generalize mulE (F0, F1) (L0, L1) = G at *
    obtain ⟨G0, G1⟩ := G
    rw [e0]
    refine AW.reg ?_
    iterate 2 refine AOL.s1 (h := ?_)
    refine AOL.nil ?_
    refine AW.kq [2, 3, 4, 5, 6, 7, 13] (h := ?_)
    repeat refine AW.seq ?_
    refine AW.cond rfl (fun c_ => ?_) (fun c_ => ?_)
    · clear c0 c_ e0
      refine AW.skip ?_
      repeat refine AW.seq ?_
      refine AW.block ?_
      repeat refine AW.seq ?_
      refine AW.drw 6 [] (by kernel_rfl) (h := ?_)
      iterate 2 refine ADL.dm 1 (h := ?_)
      refine ADL.call rfl (cff) (by kernel_rfl) rfl rfl (h := ?_)
      iterate 3 refine ADL.dm 1 (h := ?_)
      refine ADL.done hmix rfl rfl (hT := ?_)
      refine AOL.callD rfl (cl1) (by kernel_rfl) rfl rfl (h := ?_)
      refine AOL.callD rfl (cfl) (by kernel_rfl) rfl rfl (h := ?_)
      iterate 1 refine AOL.s1 (h := ?_)
      refine AOL.nil ?_
      refine AW.kq [2, 3, 4, 5, 6, 7] (h := ?_)
      repeat refine AW.seq ?_
      refine AW.reg ?_
      iterate 2 refine AOL.s1 (h := ?_)
      refine AOL.callD rfl (ctt) (by kernel_rfl) rfl rfl (h := ?_)
      iterate 1 refine AOL.s1 (h := ?_)
      refine AOL.nil ?_
      refine AW.kq [2, 3, 4, 5, 6, 7] (h := ?_)
      clear cff cl1 cfl ctt
      repeat refine AW.seq ?_
      refine AW.reg ?_
      iterate 4 refine AOL.s1 (h := ?_)
      refine AOL.nil ?_
      refine AW.kq [2, 3, 4, 5, 6, 7, 30] (h := ?_)
      repeat refine AW.seq ?_
      refine AW.cond rfl (fun g_ => ?_) (fun g_ => ?_)
      · have g1 : bit = 1 := by simpa using g_
        rw [if_pos g1] at he
        have pw_ := ptt.wx
        have cl2 := pair_line_c (a0 := T0) (b0 := a0) (q0 := q0) pw_.1 pw_.2 haw.1 haw.2 hqw.1 hqw.2
        have pl2 := lineE_lt (T0, T1, T2) (a0, ax, ay) (q0, qx, qy) hqw.2
        have cta := curve_Add_c (a0 := T0) (b0 := a0) pw_.1.w pw_.2.w haw.1.w haw.2.w
        rw [sureP_self ptt, sureP_self ha] at cta
        have pta := sumP_pt ptt ha
        generalize lineE (T0, T1, T2) (a0, ax, ay) (q0, qx, qy) = M at *
        generalize sumP (T0, T1, T2) (a0, ax, ay) = V at *
        obtain ⟨M0, M1⟩ := M
        obtain ⟨V0, V1, V2⟩ := V
        have cgm := ext_Mul_c pfl.1.w pfl.2.w pl2.1.w pl2.2.w
        have pgm := mulE_lt (G0, G1) (M0, M1)
        generalize mulE (G0, G1) (M0, M1) = H at *
        obtain ⟨H0, H1⟩ := H
        clear g1 g_ sh1 sh2 sh3
        repeat refine AW.seq ?_
        refine AW.drw 5 [] (by kernel_rfl) (h := ?_)
        iterate 4 refine ADL.dm 1 (h := ?_)
        refine ADL.call rfl (cl2) (by kernel_rfl) rfl rfl (h := ?_)
        refine ADL.done hmix rfl rfl (hT := ?_)
        refine AOL.callD rfl (cgm) (by kernel_rfl) rfl rfl (h := ?_)
        iterate 1 refine AOL.s1 (h := ?_)
        refine AOL.nil ?_
        refine AW.kq [2, 3, 4, 5, 6, 7] (h := ?_)
        repeat refine AW.seq ?_
        refine AW.reg ?_
        iterate 2 refine AOL.s1 (h := ?_)
        refine AOL.callD rfl (cta) (by kernel_rfl) rfl rfl (h := ?_)
        iterate 1 refine AOL.s1 (h := ?_)
        refine AOL.nil ?_
        repeat refine AW.seq ?_
        refine AW.reg ?_
        iterate 3 refine AOL.s1 (h := ?_)
        refine AOL.nil ?_
        exact ⟨n, by omega, _, _, _, _, _, rfl, by omega, pgm, pta, he⟩
      · have g1 : ¬ bit = 1 := by simpa using g_
        rw [if_neg g1] at he
        clear g1 g_ sh1 sh2 sh3
        refine AW.skip ?_
        repeat refine AW.seq ?_
        refine AW.reg ?_
        iterate 3 refine AOL.s1 (h := ?_)
        refine AOL.nil ?_
        exact ⟨n, by omega, _, _, _, _, _, rfl, by omega, pfl, ptt, he⟩
    · cases c_
def pairE (a q : P3) : Int × Int :=
  if inP a.1 a.2.1 a.2.2 = true ∧ inP q.1 q.2.1 q.2.2 = true then
    (if a.1 = true ∨ q.1 = true then (1, 0) else plo 64 (mulE (conjE (turnE a q)) (invE (turnE a q))) 4 (1, 0))
  else (0, 0)
theorem inP_pt {b : Bool} {x y : Int} (h : inP b x y = true) : Pt (b, x, y) := by
  unfold inP at h; simp at h; exact h.1
theorem turn_lt (a q : P3) : ∀ (n : Nat) (s : (Int × Int) × P3), (lt s.1.1 ∧ lt s.1.2) → lt (trn a q n s).1.1 ∧ lt (trn a q n s).1.2
  | 0, s, h => h
  | n + 1, s, h => turn_lt a q n _ (by unfold roundE; split <;> exact mulE_lt _ _)
theorem turnE_lt (a q : P3) : lt (turnE a q).1 ∧ lt (turnE a q).2 := turn_lt a q 58 _ one_lt
set_option maxHeartbeats 2000000 in
theorem pair_Pair_c {a0 q0 : Bool} {ax ay qx qy : Int} (hax : w64 ax) (hay : w64 ay) (hqx : w64 qx) (hqy : w64 qy) : Fn Try.prog 73 [pt (a0, ax, ay), pt (q0, qx, qy)] [] (fun r _ => r = ee (pairE (a0, ax, ay) (q0, qx, qy))) := by
  have ca := curve_In_c (b := a0) hax hay
  have cq := curve_In_c (b := q0) hqx hqy
  have eP : pairE (a0, ax, ay) (q0, qx, qy) = if inP a0 ax ay = true ∧ inP q0 qx qy = true then
    (if a0 = true ∨ q0 = true then (1, 0) else plo 64 (mulE (conjE (turnE (a0, ax, ay) (q0, qx, qy))) (invE (turnE (a0, ax, ay) (q0, qx, qy)))) 4 (1, 0))
  else (0, 0) := rfl
  rw [eP]
  clear eP
  have pa := @inP_pt a0 ax ay
  have pq := @inP_pt q0 qx qy
  generalize inP a0 ax ay = A at *
  generalize inP q0 qx qy = Q at *
  refine Fn.enter Try.func73 Try.ntmps73 rfl (h := ?_)
  have tf := tf
  have tfe := tfe
  repeat refine AW.seq ?_
  refine AW.reg ?_
  iterate 3 refine AOL.s1 (h := ?_)
  refine AOL.nil ?_
  refine AW.kq [2, 3, 4] (h := ?_)
  repeat refine AW.seq ?_
  refine AW.block ?_
  repeat refine AW.seq ?_
  refine AW.reg ?_
  iterate 1 refine AOL.s1 (h := ?_)
  refine AOL.callD rfl (ca) (by kernel_rfl) rfl rfl (h := ?_)
  iterate 2 refine AOL.s1 (h := ?_)
  refine AOL.kq [2, 3, 4, 10] (h := ?_)
  refine AOL.or 10 14 (os' := ?_) (x := ?_) (h1 := ?_) (h0 := ?_) (h := ?_)
  rotate_left 2
  iterate 2
    · intro hb_ K' hK; (first | (iterate 4 refine AOL.s1 (h := ?_)) | ((iterate 1 refine AOL.s1 (h := ?_)); refine AOL.callD rfl (cq) (by kernel_rfl) rfl rfl (h := ?_); (iterate 2 refine AOL.s1 (h := ?_)))); refine AOL.kq [2, 3, 4, 14] (h := ?_); exact hK
  iterate 1 refine AOL.s1 (h := ?_)
  refine AOL.nil ?_
  refine AW.kq [2, 3, 4, 6] (h := ?_)
  clear ca cq
  repeat refine AW.seq ?_
  refine AW.cond rfl (fun c_ => ?_) (fun c_ => ?_)
  · have c1 : ¬ (A = true ∧ Q = true) := by rintro ⟨rfl, rfl⟩; cases c_
    rw [if_neg c1]
    clear c1 c_ pa pq
    repeat refine AW.seq ?_
    refine AW.reg ?_
    iterate 2 refine AOL.s1 (h := ?_)
    refine AOL.nil ?_
    refine AW.kq [4] (h := ?_)
    repeat refine AW.seq ?_
    refine AW.ret ?_
    refine ⟨_, [], rfl, HOk.nil _, ?_⟩
    rfl
  have c1 : A = true ∧ Q = true := by simpa using c_
  rw [if_pos c1]
  have pa := pa c1.1
  have pq := pq c1.2
  clear c1 c_
  repeat refine AW.seq ?_
  cases a0 with
  | true =>
    refine AW.reg ?_
    iterate 7 refine AOL.s1 (h := ?_)
    refine AOL.nil ?_
    refine AW.kq [2, 3, 4, 16] (h := ?_)
    repeat refine AW.seq ?_
    refine AW.cond rfl (fun c_ => ?_) (fun c_ => ?_)
    · repeat refine AW.seq ?_
      refine AW.reg ?_
      iterate 2 refine AOL.s1 (h := ?_)
      refine AOL.nil ?_
      refine AW.kq [4] (h := ?_)
      repeat refine AW.seq ?_
      refine AW.ret ?_
      refine ⟨_, [], rfl, HOk.nil _, ?_⟩
      simp; rfl
    · cases c_
  | false =>
  refine AW.reg ?_
  iterate 7 refine AOL.s1 (h := ?_)
  refine AOL.nil ?_
  refine AW.kq [2, 3, 4, 16] (h := ?_)
  repeat refine AW.seq ?_
  cases q0 with
  | true =>
    refine AW.cond rfl (fun c_ => ?_) (fun c_ => ?_)
    · repeat refine AW.seq ?_
      refine AW.reg ?_
      iterate 2 refine AOL.s1 (h := ?_)
      refine AOL.nil ?_
      refine AW.kq [4] (h := ?_)
      repeat refine AW.seq ?_
      refine AW.ret ?_
      refine ⟨_, [], rfl, HOk.nil _, ?_⟩
      simp; rfl
    · cases c_
  | false =>
  refine AW.cond rfl (fun c_ => ?_) (fun c_ => ?_)
  · cases c_
  rw [if_neg (by simp)]
  clear c_
  have ct := pair_turn_c pa pq
  have lt_ := turnE_lt (false, ax, ay) (false, qx, qy)
  generalize turnE (false, ax, ay) (false, qx, qy) = F at *
  obtain ⟨F0, F1⟩ := F
  have cc := ext_Conj_c lt_.1.w lt_.2.w
  have ci := ext_Inv_c lt_.1.w lt_.2.w
  have lc := conjE_lt (F0, F1)
  have li := invE_lt (F0, F1)
  generalize conjE (F0, F1) = C_ at *
  generalize invE (F0, F1) = I_ at *
  obtain ⟨C0, C1⟩ := C_
  obtain ⟨I0, I1⟩ := I_
  have cm := ext_Mul_c lc.1.w lc.2.w li.1.w li.2.w
  have lm := mulE_lt (C0, C1) (I0, I1)
  generalize mulE (C0, C1) (I0, I1) = M at *
  obtain ⟨M0, M1⟩ := M
  have cp := ext_Pow_c (e := 4) lm.1.w lm.2.w (by decide)
  refine AW.skip ?_
  repeat refine AW.seq ?_
  refine AW.reg ?_
  iterate 2 refine AOL.s1 (h := ?_)
  refine AOL.callD rfl (ct) (by kernel_rfl) rfl rfl (h := ?_)
  iterate 2 refine AOL.s1 (h := ?_)
  refine AOL.nil ?_
  refine AW.kq [4, 5] (h := ?_)
  repeat refine AW.seq ?_
  refine AW.drw 3 [] (by kernel_rfl) (h := ?_)
  iterate 1 refine ADL.dm 1 (h := ?_)
  refine ADL.call rfl (cc) (by kernel_rfl) rfl rfl (h := ?_)
  iterate 1 refine ADL.dm 1 (h := ?_)
  refine ADL.done hmix rfl rfl (hT := ?_)
  refine AOL.callD rfl (ci) (by kernel_rfl) rfl rfl (h := ?_)
  refine AOL.callD rfl (cm) (by kernel_rfl) rfl rfl (h := ?_)
  refine AOL.callD rfl (cp) (by kernel_rfl) rfl rfl (h := ?_)
  iterate 1 refine AOL.s1 (h := ?_)
  refine AOL.nil ?_
  refine AW.kq [4] (h := ?_)
  repeat refine AW.seq ?_
  refine AW.ret ?_
  refine ⟨_, [], rfl, HOk.nil _, ?_⟩
  rfl
end Go.Proofs.Ytdbpjegocmdplaa.E.M

