/- The document's pairing, by lines and walls: contracts over E. -/
import Derived.Test.YtibmidoepeghpaaPairD
import Derived.Test.YtibmidoepeghpaaProg
import Derived.KernelRfl
set_option linter.unusedVariables false
set_option linter.unusedSimpArgs false
set_option maxRecDepth 10000
open Go Go.Proofs.Ytibmidoepeghpaa.E Go.Proofs
namespace Go.Proofs.Ytibmidoepeghpaa.E.M
def wallE (a q : P3) : Int × Int := if a.1 = true then (1, 0) else (-((q.2.1 + a.2.1) % 1152921505151057923) % 1152921505151057923, 0)
def rlineE (a b q : P3) : Int × Int := if wallP a b = true then wallE a q else ((lam a b * ((q.2.1 + a.2.1) % 1152921505151057923) % 1152921505151057923 + -a.2.2 % 1152921505151057923) % 1152921505151057923, q.2.2)
def overE (a b : Int × Int) : Int × Int := mulE a (mulE (powE (powE b 1152921505151057923) 1152921505151057922) (powE b 1152921505151057921))
def rstepE (f l w : Int × Int) : Int × Int := overE (mulE f l) w
def rroundE (a q : P3) (i : Nat) (s : (Int × Int) × P3) : (Int × Int) × P3 :=
  if (288230376287764481 : Int) / 2 ^ i % 2 = 1 then (rstepE (rstepE (mulE s.1 s.1) (rlineE s.2 s.2 q) (wallE (sumP s.2 s.2) q)) (rlineE (sumP s.2 s.2) a q) (wallE (sumP (sumP s.2 s.2) a) q), sumP (sumP s.2 s.2) a)
  else (rstepE (mulE s.1 s.1) (rlineE s.2 s.2 q) (wallE (sumP s.2 s.2) q), sumP s.2 s.2)
def rtrn (a q : P3) : Nat → (Int × Int) × P3 → (Int × Int) × P3
  | 0, s => s
  | i + 1, s => rtrn a q i (rroundE a q i s)
def rpairE (a q : P3) : Int × Int :=
  if inP a.1 a.2.1 a.2.2 = true ∧ inP q.1 q.2.1 q.2.2 = true then
    (if a.1 = true ∨ q.1 = true then (1, 0) else powE (powE (rtrn a q 58 ((1, 0), a)).1 1152921505151057922) 4)
  else (0, 0)
theorem wallE_lt (a q : P3) : lt (wallE a q).1 ∧ lt (wallE a q).2 := by
  unfold wallE; split
  · exact one_lt
  · exact ⟨ltm _, ⟨Int.le_refl 0, show (0:Int) < 1152921505151057923 by decide⟩⟩
theorem rlineE_lt (a b q : P3) (hq : lt q.2.2) : lt (rlineE a b q).1 ∧ lt (rlineE a b q).2 := by
  unfold rlineE; split
  · exact wallE_lt _ _
  · exact ⟨ltm _, hq⟩
theorem overE_lt (a b : Int × Int) : lt (overE a b).1 ∧ lt (overE a b).2 := mulE_lt _ _
theorem rstepE_lt (f l w : Int × Int) : lt (rstepE f l w).1 ∧ lt (rstepE f l w).2 := overE_lt _ _
theorem mdP' : (0:Int) < 1152921505151057923 ∧ (1152921505151057923:Int) < 18446744073709551616 := ⟨by decide, by decide⟩
set_option maxHeartbeats 1000000 in
theorem obolref04_wall_c {a0 q0 : Bool} {ax ay qx qy : Int} (hax : lt ax) (hqx : lt qx) : Fn Try.prog 63 [pt (a0, ax, ay), pt (q0, qx, qy)] [] (fun r _ => r = ee (wallE (a0, ax, ay) (q0, qx, qy))) := by
  refine Fn.enter Try.func63 Try.ntmps63 rfl (h := ?_)
  have tf := tf
  have tfe := tfe
  repeat refine AW.seq ?_
  refine AW.reg ?_
  iterate 3 refine AOL.s1 (h := ?_)
  refine AOL.nil ?_
  refine AW.kq [2, 3, 4] (h := ?_)
  repeat refine AW.seq ?_
  refine AW.reg ?_
  iterate 2 refine AOL.s1 (h := ?_)
  refine AOL.nil ?_
  refine AW.kq [2, 3, 4, 6] (h := ?_)
  repeat refine AW.seq ?_
  cases a0 with
  | true =>
    refine AW.cond rfl (fun c_ => ?_) (fun c_ => ?_)
    · repeat refine AW.seq ?_
      refine AW.reg ?_
      iterate 2 refine AOL.s1 (h := ?_)
      refine AOL.nil ?_
      refine AW.kq [4] (h := ?_)
      repeat refine AW.seq ?_
      refine AW.ret ?_
      refine ⟨_, [], rfl, HOk.nil _, ?_⟩
      rfl
    cases c_
  | false =>
    refine AW.cond rfl (fun c_ => ?_) (fun c_ => ?_)
    · cases c_
    refine AW.skip ?_
    repeat refine AW.seq ?_
    refine AW.reg ?_
    iterate 4 refine AOL.s1 (h := ?_)
    refine AOL.callD rfl (obolref01_Add_c mdP' hqx.w hax.w) (by kernel_rfl) rfl rfl (h := ?_)
    refine AOL.callD rfl (obolref02_Neg_c (ltm _).w) (by kernel_rfl) rfl rfl (h := ?_)
    iterate 2 refine AOL.s1 (h := ?_)
    refine AOL.nil ?_
    refine AW.kq [4] (h := ?_)
    repeat refine AW.seq ?_
    refine AW.ret ?_
    refine ⟨_, [], rfl, HOk.nil _, ?_⟩
    rfl
set_option maxHeartbeats 1000000 in
theorem obolref04_line_c {a0 b0 q0 : Bool} {ax ay bx bY qx qy : Int} (ha : Pt (a0, ax, ay)) (hb : Pt (b0, bx, bY)) (hq : Pt (q0, qx, qy)) : Fn Try.prog 62 [pt (a0, ax, ay), pt (b0, bx, bY), pt (q0, qx, qy)] [] (fun r _ => r = ee (rlineE (a0, ax, ay) (b0, bx, bY) (q0, qx, qy))) := by
  have ha' := ha.wx
  have hb' := hb.wx
  have hq' := hq.wx
  have cw := obolref03_Wall_c (a0 := a0) (b0 := b0) (ax := ax) (bx := bx) ha'.2.w hb'.2.w
  have cv := obolref04_wall_c (a0 := a0) (q0 := q0) (ay := ay) (qy := qy) ha'.1 hq'.1
  have eR : rlineE (a0, ax, ay) (b0, bx, bY) (q0, qx, qy) = if wallP (a0, ax, ay) (b0, bx, bY) = true then wallE (a0, ax, ay) (q0, qx, qy) else ((lam (a0, ax, ay) (b0, bx, bY) * ((qx + ax) % 1152921505151057923) % 1152921505151057923 + -ay % 1152921505151057923) % 1152921505151057923, qy) := rfl
  rw [eR]
  clear eR
  have hwall : wallP (a0, ax, ay) (b0, bx, bY) = false → a0 = false ∧ b0 = false ∧ ¬ (ax = bx ∧ (ay + bY) % 1152921505151057923 = 0) := by
    unfold wallP
    cases a0 <;> cases b0 <;> simp
  generalize wallE (a0, ax, ay) (q0, qx, qy) = W at *
  obtain ⟨W0, W1⟩ := W
  generalize wallP (a0, ax, ay) (b0, bx, bY) = w at *
  refine Fn.enter Try.func62 Try.ntmps62 rfl (h := ?_)
  have tf := tf
  have tfe := tfe
  repeat refine AW.seq ?_
  refine AW.reg ?_
  iterate 4 refine AOL.s1 (h := ?_)
  refine AOL.nil ?_
  refine AW.kq [3, 4, 5, 6] (h := ?_)
  repeat refine AW.seq ?_
  refine AW.reg ?_
  iterate 2 refine AOL.s1 (h := ?_)
  refine AOL.callD rfl (cw) (by kernel_rfl) rfl rfl (h := ?_)
  iterate 1 refine AOL.s1 (h := ?_)
  refine AOL.nil ?_
  refine AW.kq [3, 4, 5, 6, 7] (h := ?_)
  repeat refine AW.seq ?_
  refine AW.reg ?_
  iterate 1 refine AOL.s1 (h := ?_)
  refine AOL.nil ?_
  refine AW.kq [3, 4, 5, 6, 13] (h := ?_)
  repeat refine AW.seq ?_
  cases w with
  | true =>
    refine AW.cond rfl (fun c_ => ?_) (fun c_ => ?_)
    · repeat refine AW.seq ?_
      refine AW.reg ?_
      iterate 2 refine AOL.s1 (h := ?_)
      refine AOL.callD rfl (cv) (by kernel_rfl) rfl rfl (h := ?_)
      iterate 1 refine AOL.s1 (h := ?_)
      refine AOL.nil ?_
      refine AW.kq [6] (h := ?_)
      repeat refine AW.seq ?_
      refine AW.ret ?_
      refine ⟨_, [], rfl, HOk.nil _, ?_⟩
      rfl
    cases c_
  | false =>
    obtain ⟨rfl, rfl, hw⟩ := hwall rfl
    have cs := obolref03_Slope_c ha hb hw
    have hl : lt (lam (false, ax, ay) (false, bx, bY)) := by unfold lam; split <;> exact ltm _
    clear hw
    generalize lam (false, ax, ay) (false, bx, bY) = l at *
    refine AW.cond rfl (fun c_ => ?_) (fun c_ => ?_)
    · cases c_
    refine AW.skip ?_
    repeat refine AW.seq ?_
    refine AW.reg ?_
    iterate 2 refine AOL.s1 (h := ?_)
    refine AOL.callD rfl (cs) (by kernel_rfl) rfl rfl (h := ?_)
    iterate 1 refine AOL.s1 (h := ?_)
    refine AOL.nil ?_
    refine AW.kq [3, 5, 6, 8] (h := ?_)
    repeat refine AW.seq ?_
    refine AW.reg ?_
    iterate 5 refine AOL.s1 (h := ?_)
    refine AOL.callD rfl (obolref01_Add_c mdP' hq'.1.w ha'.1.w) (by kernel_rfl) rfl rfl (h := ?_)
    refine AOL.callD rfl (obolref01_Mul_c mdP' hl.w (ltm _).w) (by kernel_rfl) rfl rfl (h := ?_)
    iterate 1 refine AOL.s1 (h := ?_)
    refine AOL.nil ?_
    refine AW.kq [3, 5, 6, 9] (h := ?_)
    repeat refine AW.seq ?_
    refine AW.drw 7 [] (by kernel_rfl) (h := ?_)
    iterate 3 refine ADL.dm 1 (h := ?_)
    refine ADL.call rfl (obolref02_Neg_c ha'.2.w) (by kernel_rfl) rfl rfl (h := ?_)
    refine ADL.call rfl (obolref01_Add_c mdP' (ltm _).w (ltm _).w) (by kernel_rfl) rfl rfl (h := ?_)
    iterate 2 refine ADL.dm 1 (h := ?_)
    refine ADL.done hmix rfl rfl (hT := ?_)
    iterate 2 refine AOL.s1 (h := ?_)
    refine AOL.nil ?_
    refine AW.kq [6] (h := ?_)
    repeat refine AW.seq ?_
    refine AW.ret ?_
    refine ⟨_, [], rfl, HOk.nil _, ?_⟩
    rfl
set_option maxHeartbeats 1000000 in
theorem obolref04_Over_c {a0 a1 b0 b1 : Int} (h0 : w64 a0) (h1 : w64 a1) (h2 : w64 b0) (h3 : w64 b1) : Fn Try.prog 71 [ee (a0, a1), ee (b0, b1)] [] (fun r _ => r = ee (overE (a0, a1) (b0, b1))) := by
  have eR : overE (a0, a1) (b0, b1) = mulE (a0, a1) (mulE (powE (powE (b0, b1) 1152921505151057923) 1152921505151057922) (powE (b0, b1) 1152921505151057921)) := rfl
  rw [eR]
  clear eR
  have c1 := obolref02_Pow_c (e := 1152921505151057923) h2 h3 (by decide)
  have p1 := powE_lt (b0, b1) 1152921505151057923
  generalize powE (b0, b1) 1152921505151057923 = A at *
  obtain ⟨A0, A1⟩ := A
  have c2 := obolref02_Pow_c (e := 1152921505151057922) p1.1.w p1.2.w (by decide)
  have p2 := powE_lt (A0, A1) 1152921505151057922
  generalize powE (A0, A1) 1152921505151057922 = B at *
  obtain ⟨B0, B1⟩ := B
  have c3 := obolref02_Pow_c (e := 1152921505151057921) h2 h3 (by decide)
  have p3 := powE_lt (b0, b1) 1152921505151057921
  generalize powE (b0, b1) 1152921505151057921 = C at *
  obtain ⟨C0, C1⟩ := C
  have c4 := obolref02_Mul_c p2.1.w p2.2.w p3.1.w p3.2.w
  have p4 := mulE_lt (B0, B1) (C0, C1)
  generalize mulE (B0, B1) (C0, C1) = D at *
  obtain ⟨D0, D1⟩ := D
  have c5 := obolref02_Mul_c h0 h1 p4.1.w p4.2.w
  generalize mulE (a0, a1) (D0, D1) = F at *
  obtain ⟨F0, F1⟩ := F
  refine Fn.enter Try.func71 Try.ntmps71 rfl (h := ?_)
  have tf := tf
  have tfe := tfe
  repeat refine AW.seq ?_
  refine AW.reg ?_
  iterate 3 refine AOL.s1 (h := ?_)
  refine AOL.nil ?_
  refine AW.kq [2, 3, 4] (h := ?_)
  repeat refine AW.seq ?_
  refine AW.reg ?_
  iterate 1 refine AOL.s1 (h := ?_)
  refine AOL.callD rfl (c1) (by kernel_rfl) rfl rfl (h := ?_)
  refine AOL.callD rfl (c2) (by kernel_rfl) rfl rfl (h := ?_)
  iterate 2 refine AOL.s1 (h := ?_)
  refine AOL.nil ?_
  refine AW.kq [2, 3, 4, 5] (h := ?_)
  repeat refine AW.seq ?_
  refine AW.drw 5 [] (by kernel_rfl) (h := ?_)
  iterate 3 refine ADL.dm 1 (h := ?_)
  refine ADL.call rfl (c3) (by kernel_rfl) rfl rfl (h := ?_)
  refine ADL.call rfl (c4) (by kernel_rfl) rfl rfl (h := ?_)
  refine ADL.done hmix rfl rfl (hT := ?_)
  refine AOL.callD rfl (c5) (by kernel_rfl) rfl rfl (h := ?_)
  iterate 1 refine AOL.s1 (h := ?_)
  refine AOL.nil ?_
  refine AW.kq [4] (h := ?_)
  repeat refine AW.seq ?_
  refine AW.ret ?_
  refine ⟨_, [], rfl, HOk.nil _, ?_⟩
  rfl
set_option maxHeartbeats 1000000 in
theorem obolref04_step_c {f0 f1 l0 l1 v0 v1 : Int} (h0 : w64 f0) (h1 : w64 f1) (h2 : w64 l0) (h3 : w64 l1) (h4 : w64 v0) (h5 : w64 v1) : Fn Try.prog 61 [ee (f0, f1), ee (l0, l1), ee (v0, v1)] [] (fun r _ => r = ee (rstepE (f0, f1) (l0, l1) (v0, v1))) := by
  have eR : rstepE (f0, f1) (l0, l1) (v0, v1) = overE (mulE (f0, f1) (l0, l1)) (v0, v1) := rfl
  rw [eR]
  clear eR
  have c1 := obolref02_Mul_c h0 h1 h2 h3
  have p1 := mulE_lt (f0, f1) (l0, l1)
  generalize mulE (f0, f1) (l0, l1) = A at *
  obtain ⟨A0, A1⟩ := A
  have c2 := obolref04_Over_c p1.1.w p1.2.w h4 h5
  generalize overE (A0, A1) (v0, v1) = B at *
  obtain ⟨B0, B1⟩ := B
  refine Fn.enter Try.func61 Try.ntmps61 rfl (h := ?_)
  have tf := tf
  have tfe := tfe
  repeat refine AW.seq ?_
  refine AW.reg ?_
  iterate 4 refine AOL.s1 (h := ?_)
  refine AOL.nil ?_
  refine AW.kq [3, 4, 5, 6] (h := ?_)
  repeat refine AW.seq ?_
  refine AW.drw 4 [] (by kernel_rfl) (h := ?_)
  iterate 2 refine ADL.dm 1 (h := ?_)
  refine ADL.call rfl (c1) (by kernel_rfl) rfl rfl (h := ?_)
  iterate 1 refine ADL.dm 1 (h := ?_)
  refine ADL.done hmix rfl rfl (hT := ?_)
  refine AOL.callD rfl (c2) (by kernel_rfl) rfl rfl (h := ?_)
  iterate 1 refine AOL.s1 (h := ?_)
  refine AOL.nil ?_
  refine AW.kq [6] (h := ?_)
  repeat refine AW.seq ?_
  refine AW.ret ?_
  refine ⟨_, [], rfl, HOk.nil _, ?_⟩
  rfl
theorem topbit : ∀ m : Nat, m ≤ 63 → 58 ≤ m → ((288230376287764481 : Int) / 2 ^ m % 2 = 0 ↔ m ≠ 58) := by
  intro m h1 h2
  have : m = 58 ∨ m = 59 ∨ m = 60 ∨ m = 61 ∨ m = 62 ∨ m = 63 := by omega
  rcases this with rfl | rfl | rfl | rfl | rfl | rfl <;> decide
set_option maxHeartbeats 4000000 in
theorem obolref04_Pair_c {a0 q0 : Bool} {ax ay qx qy : Int} (hax : w64 ax) (hay : w64 ay) (hqx : w64 qx) (hqy : w64 qy) : Fn Try.prog 38 [pt (a0, ax, ay), pt (q0, qx, qy)] [] (fun r _ => r = ee (rpairE (a0, ax, ay) (q0, qx, qy))) := by
  have ca := obolref03_In_c (b := a0) hax hay
  have cq := obolref03_In_c (b := q0) hqx hqy
  have eP : rpairE (a0, ax, ay) (q0, qx, qy) = if inP a0 ax ay = true ∧ inP q0 qx qy = true then
    (if a0 = true ∨ q0 = true then (1, 0) else powE (powE (rtrn (a0, ax, ay) (q0, qx, qy) 58 ((1, 0), (a0, ax, ay))).1 1152921505151057922) 4)
  else (0, 0) := rfl
  rw [eP]
  clear eP
  have pa := @inP_pt a0 ax ay
  have pq := @inP_pt q0 qx qy
  generalize inP a0 ax ay = A at *
  generalize inP q0 qx qy = Q at *
  refine Fn.enter Try.func38 Try.ntmps38 rfl (h := ?_)
  have tf := tf
  have tfe := tfe
  repeat refine AW.seq ?_
  refine AW.reg ?_
  iterate 3 refine AOL.s1 (h := ?_)
  refine AOL.nil ?_
  refine AW.kq [2, 3, 4] (h := ?_)
  repeat refine AW.seq ?_
  refine AW.reg ?_
  iterate 1 refine AOL.s1 (h := ?_)
  refine AOL.callD rfl (ca) (by kernel_rfl) rfl rfl (h := ?_)
  iterate 2 refine AOL.s1 (h := ?_)
  refine AOL.kq [2, 3, 4, 14] (h := ?_)
  refine AOL.or 14 18 (os' := ?_) (x := ?_) (h1 := ?_) (h0 := ?_) (h := ?_)
  rotate_left 2
  iterate 2
    · intro hb_ K' hK; (first | (iterate 4 refine AOL.s1 (h := ?_)) | ((iterate 1 refine AOL.s1 (h := ?_)); refine AOL.callD rfl (cq) (by kernel_rfl) rfl rfl (h := ?_); (iterate 2 refine AOL.s1 (h := ?_)))); refine AOL.kq [2, 3, 4, 18] (h := ?_); exact hK
  refine AOL.nil ?_
  refine AW.kq [2, 3, 4, 18] (h := ?_)
  clear ca cq
  repeat refine AW.seq ?_
  refine AW.cond rfl (fun c_ => ?_) (fun c_ => ?_)
  · have c1 : ¬ (A = true ∧ Q = true) := by rintro ⟨rfl, rfl⟩; cases c_
    rw [if_neg c1]
    clear c1 c_ pa pq
    repeat refine AW.seq ?_
    refine AW.reg ?_
    iterate 2 refine AOL.s1 (h := ?_)
    refine AOL.nil ?_
    refine AW.kq [4] (h := ?_)
    repeat refine AW.seq ?_
    refine AW.ret ?_
    refine ⟨_, [], rfl, HOk.nil _, ?_⟩
    rfl
  have c1 : A = true ∧ Q = true := by simpa using c_
  rw [if_pos c1]
  have pa := pa c1.1
  have pq := pq c1.2
  clear c1 c_
  refine AW.skip ?_
  repeat refine AW.seq ?_
  cases a0 with
  | true =>
    refine AW.reg ?_
    iterate 6 refine AOL.s1 (h := ?_)
    refine AOL.nil ?_
    refine AW.kq [2, 3, 4, 25] (h := ?_)
    repeat refine AW.seq ?_
    refine AW.cond rfl (fun c_ => ?_) (fun c_ => ?_)
    · repeat refine AW.seq ?_
      refine AW.reg ?_
      iterate 2 refine AOL.s1 (h := ?_)
      refine AOL.nil ?_
      refine AW.kq [4] (h := ?_)
      repeat refine AW.seq ?_
      refine AW.ret ?_
      refine ⟨_, [], rfl, HOk.nil _, ?_⟩
      simp; rfl
    · cases c_
  | false =>
  refine AW.reg ?_
  iterate 6 refine AOL.s1 (h := ?_)
  refine AOL.nil ?_
  refine AW.kq [2, 3, 4, 25] (h := ?_)
  repeat refine AW.seq ?_
  cases q0 with
  | true =>
    refine AW.cond rfl (fun c_ => ?_) (fun c_ => ?_)
    · repeat refine AW.seq ?_
      refine AW.reg ?_
      iterate 2 refine AOL.s1 (h := ?_)
      refine AOL.nil ?_
      refine AW.kq [4] (h := ?_)
      repeat refine AW.seq ?_
      refine AW.ret ?_
      refine ⟨_, [], rfl, HOk.nil _, ?_⟩
      simp; rfl
    · cases c_
  | false =>
  refine AW.cond rfl (fun c_ => ?_) (fun c_ => ?_)
  · cases c_
  rw [if_neg (by simp)]
  clear c_
  refine AW.skip ?_
  repeat refine AW.seq ?_
  refine AW.reg ?_
  iterate 3 refine AOL.s1 (h := ?_)
  refine AOL.nil ?_
  refine AW.kq [2, 3, 4, 5] (h := ?_)
  repeat refine AW.seq ?_
  refine AW.reg ?_
  iterate 3 refine AOL.s1 (h := ?_)
  refine AOL.nil ?_
  refine AW.kq [2, 3, 4, 5, 6] (h := ?_)
  repeat refine AW.seq ?_
  refine AW.reg ?_
  iterate 1 refine AOL.s1 (h := ?_)
  refine AOL.nil ?_
  refine AW.kq [2, 3, 4, 5, 6, 7] (h := ?_)
  repeat refine AW.seq ?_
  refine AW.block ?_
  repeat refine AW.seq ?_
  refine AW.loopK [2, 3, 4, 5, 6, 7] (fun n s => ∃ m : Nat, s = ⟨76, [(2, .ptr 1032 0), (3, .ptr 1048 0), (4, .ptr 1064 0), (5, .ptr 1080 0), (6, .ptr 1096 0), (7, i m)], [(1032, ⟨24, true, [bo false, u ax, u ay]⟩), (1048, ⟨24, true, [bo false, u qx, u qy]⟩), (1064, ⟨48, true, [u 0, u 0]⟩), (1080, ⟨48, true, [u 1, u 0]⟩), (1096, ⟨24, true, [bo false, u ax, u ay]⟩)]⟩ ∧ 58 ≤ m ∧ m ≤ 63 ∧ n = m - 58) 5 ?_ ?_
  · exact ⟨63, rfl, by decide, by decide, rfl⟩
  rintro n s ⟨m, rfl, m1, m2, rfl⟩
  have m0 : ¬ (m : Int) < 0 := by omega
  obtain ⟨sh1, sh2⟩ := shr_b (y := 288230376287764481) (k := m) ⟨by decide, by decide⟩ (by omega)
  have sh3 := and_one sh2.1 sh2.2
  have hb := topbit m m2 m1
  generalize (288230376287764481 : Int) / 2 ^ m % 2 = bit at *
  repeat refine AW.seq ?_
  refine AW.reg ?_
  iterate 4 refine AOL.s1 (h := ?_)
  refine AOL.nil ?_
  refine AW.kq [2, 3, 4, 5, 6, 7, 32] (h := ?_)
  clear sh1 sh2 sh3
  repeat refine AW.seq ?_
  refine AW.cond rfl (fun c_ => ?_) (fun c_ => ?_)
  · have m3 : m ≠ 58 := hb.1 (by simpa using c_)
    have e1 : IntKind.i64.wrap ((m : Int) - 1) = ((m - 1 : Nat) : Int) := by rw [wrapI_o (by omega) (by omega)]; omega
    refine AW.skip ?_
    repeat refine AW.seq ?_
    refine AW.block ?_
    repeat refine AW.seq ?_
    refine AW.reg ?_
    iterate 3 refine AOL.s1 (h := ?_)
    refine AOL.nil ?_
    exact ⟨m - 1 - 58, by omega, m - 1, rfl, by omega, by omega, rfl⟩
  have m3 : m = 58 := by
    apply Classical.byContradiction
    intro h
    have := hb.2 h
    rw [this] at c_; cases c_
  subst m3
  clear hb c_ m0 m1 m2
  repeat refine AW.seq ?_
  refine AW.exit ?_
  repeat (first | refine Kseq.ex ?_ | refine Kloop.ex ?_ | refine Kblock.miss (by decide) ?_)
  refine Kblock.hit ?_
  refine AW.kq [2, 3, 4, 5, 6, 7] (h := ?_)
  have w57 : IntKind.i64.wrap ((58 : Nat) - 1) = 57 := by decide
  repeat refine AW.seq ?_
  refine AW.reg ?_
  iterate 3 refine AOL.s1 (h := ?_)
  refine AOL.nil ?_
  refine AW.kq [2, 3, 4, 5, 6, 8] (h := ?_)
  repeat refine AW.seq ?_
  refine AW.block ?_
  repeat refine AW.seq ?_
  have haw := pa.wx
  have hqw := pq.wx
  clear w57
  refine AW.loopK [2, 3, 4, 5, 6, 8] (fun n s => ∃ (f0 f1 : Int) (t0 : Bool) (tx ty : Int), s = ⟨76, [(2, .ptr 1032 0), (3, .ptr 1048 0), (4, .ptr 1064 0), (5, .ptr 1080 0), (6, .ptr 1096 0), (8, i ((n : Int) - 1))], [(1032, ⟨24, true, [bo false, u ax, u ay]⟩), (1048, ⟨24, true, [bo false, u qx, u qy]⟩), (1064, ⟨48, true, [u 0, u 0]⟩), (1080, ⟨48, true, [u f0, u f1]⟩), (1096, ⟨24, true, [bo t0, u tx, u ty]⟩)]⟩ ∧ n ≤ 58 ∧ (lt f0 ∧ lt f1) ∧ Pt (t0, tx, ty) ∧ rtrn (false, ax, ay) (false, qx, qy) n ((f0, f1), (t0, tx, ty)) = rtrn (false, ax, ay) (false, qx, qy) 58 ((1, 0), (false, ax, ay))) 58 ?_ ?_
  · exact ⟨1, 0, false, ax, ay, rfl, Nat.le_refl _, one_lt, pa, rfl⟩
  rintro n s ⟨f0, f1, t0, tx, ty, rfl, hn, hf, ht, he⟩
  repeat refine AW.seq ?_
  generalize rtrn (false, ax, ay) (false, qx, qy) 58 ((1, 0), (false, ax, ay)) = V at *
  cases n with
  | zero =>
    have c0 : decide (((0 : Nat) : Int) - 1 ≥ 0) = false := by decide
    have he : V = ((f0, f1), (t0, tx, ty)) := he.symm
    rw [he]
    refine AW.reg ?_
    iterate 2 refine AOL.s1 (h := ?_)
    refine AOL.nil ?_
    refine AW.kq [2, 3, 4, 5, 6, 8, 38] (h := ?_)
    repeat refine AW.seq ?_
    refine AW.cond rfl (fun c_ => ?_) (fun c_ => ?_)
    · cases c_
    clear c0 c_ he
    repeat refine AW.seq ?_
    refine AW.exit ?_
    repeat (first | refine Kseq.ex ?_ | refine Kloop.ex ?_ | refine Kblock.miss (by decide) ?_)
    refine Kblock.hit ?_
    refine AW.kq [4, 5] (h := ?_)
    have c1 := obolref02_Pow_c (e := 1152921505151057922) hf.1.w hf.2.w (by decide)
    have p1 := powE_lt (f0, f1) 1152921505151057922
    show AW _ _ _ _
    rw [show (((f0, f1), (t0, tx, ty)) : (Int × Int) × P3).1 = (f0, f1) from rfl]
    generalize powE (f0, f1) 1152921505151057922 = A at *
    obtain ⟨A0, A1⟩ := A
    have c2 := obolref02_Pow_c (e := 4) p1.1.w p1.2.w (by decide)
    generalize powE (A0, A1) 4 = B at *
    obtain ⟨B0, B1⟩ := B
    repeat refine AW.seq ?_
    refine AW.reg ?_
    iterate 1 refine AOL.s1 (h := ?_)
    refine AOL.callD rfl (c1) (by kernel_rfl) rfl rfl (h := ?_)
    refine AOL.callD rfl (c2) (by kernel_rfl) rfl rfl (h := ?_)
    iterate 1 refine AOL.s1 (h := ?_)
    refine AOL.nil ?_
    refine AW.kq [4] (h := ?_)
    repeat refine AW.seq ?_
    refine AW.ret ?_
    refine ⟨_, [], rfl, HOk.nil _, ?_⟩
    rfl
  | succ n =>
    have e0 : ((n + 1 : Nat) : Int) - 1 = n := by omega
    have c0 : decide ((n : Int) ≥ 0) = true := by simp
    have e1 : IntKind.i64.wrap ((n : Int) - 1) = (n : Int) - 1 := wrapI_o (by omega) (by omega)
    obtain ⟨sh1, sh2⟩ := shr_b (y := 288230376287764481) (k := n) ⟨by decide, by decide⟩ (by omega)
    have sh3 := and_one sh2.1 sh2.2
    have n0 : ¬ (n : Int) < 0 := by omega
    have he : (rtrn (false, ax, ay) (false, qx, qy) n (if (288230376287764481 : Int) / 2 ^ n % 2 = 1 then (rstepE (rstepE (mulE (f0, f1) (f0, f1)) (rlineE (t0, tx, ty) (t0, tx, ty) (false, qx, qy)) (wallE (sumP (t0, tx, ty) (t0, tx, ty)) (false, qx, qy))) (rlineE (sumP (t0, tx, ty) (t0, tx, ty)) (false, ax, ay) (false, qx, qy)) (wallE (sumP (sumP (t0, tx, ty) (t0, tx, ty)) (false, ax, ay)) (false, qx, qy)), sumP (sumP (t0, tx, ty) (t0, tx, ty)) (false, ax, ay)) else (rstepE (mulE (f0, f1) (f0, f1)) (rlineE (t0, tx, ty) (t0, tx, ty) (false, qx, qy)) (wallE (sumP (t0, tx, ty) (t0, tx, ty)) (false, qx, qy)), sumP (t0, tx, ty) (t0, tx, ty)))) = V := he
    have hbit : ∃ bit : Int, (288230376287764481 : Int) / 2 ^ n % 2 = bit := ⟨_, rfl⟩
    obtain ⟨bit, hbit⟩ := hbit
    rw [hbit] at he sh3
    clear hbit
    have htw := ht.wx
    have cff := obolref02_Mul_c hf.1.w hf.2.w hf.1.w hf.2.w
    have pff := mulE_lt (f0, f1) (f0, f1)
    have cl1 := obolref04_line_c ht ht pq
    have pl1 := rlineE_lt (t0, tx, ty) (t0, tx, ty) (false, qx, qy) hqw.2
    have ctt := obolref03_Sum_c ht ht
    have ptt := sumP_pt ht ht
    generalize rlineE (t0, tx, ty) (t0, tx, ty) (false, qx, qy) = L at *
    generalize mulE (f0, f1) (f0, f1) = F at *
    generalize sumP (t0, tx, ty) (t0, tx, ty) = T at *
    obtain ⟨T0, T1, T2⟩ := T
    obtain ⟨L0, L1⟩ := L
    obtain ⟨F0, F1⟩ := F
    have cw1 := obolref04_wall_c (a0 := T0) (q0 := false) (ay := T2) (qy := qy) ptt.wx.1 hqw.1
    have pw1 := wallE_lt (T0, T1, T2) (false, qx, qy)
    generalize wallE (T0, T1, T2) (false, qx, qy) = X at *
    obtain ⟨X0, X1⟩ := X
    have cs1 := obolref04_step_c pff.1.w pff.2.w pl1.1.w pl1.2.w pw1.1.w pw1.2.w
    have ps1 := rstepE_lt (F0, F1) (L0, L1) (X0, X1)
    generalize rstepE (F0, F1) (L0, L1) (X0, X1) = G at *
    obtain ⟨G0, G1⟩ := G
    rw [e0]
    refine AW.reg ?_
    iterate 2 refine AOL.s1 (h := ?_)
    refine AOL.nil ?_
    refine AW.kq [2, 3, 4, 5, 6, 8, 38] (h := ?_)
    repeat refine AW.seq ?_
    refine AW.cond rfl (fun c_ => ?_) (fun c_ => ?_)
    · clear c0 c_ e0
      refine AW.skip ?_
      repeat refine AW.seq ?_
      refine AW.block ?_
      repeat refine AW.seq ?_
      refine AW.reg ?_
      iterate 2 refine AOL.s1 (h := ?_)
      refine AOL.callD rfl (ctt) (by kernel_rfl) rfl rfl (h := ?_)
      iterate 2 refine AOL.s1 (h := ?_)
      refine AOL.nil ?_
      refine AW.kq [2, 3, 4, 5, 6, 8, 9] (h := ?_)
      repeat refine AW.seq ?_
      refine AW.drw 9 [] (by kernel_rfl) (h := ?_)
      iterate 2 refine ADL.dm 1 (h := ?_)
      refine ADL.call rfl (cff) (by kernel_rfl) rfl rfl (h := ?_)
      iterate 3 refine ADL.dm 1 (h := ?_)
      refine ADL.call rfl (cl1) (by kernel_rfl) rfl rfl (h := ?_)
      iterate 2 refine ADL.dm 1 (h := ?_)
      refine ADL.done hmix rfl rfl (hT := ?_)
      refine AOL.callD rfl (cw1) (by kernel_rfl) rfl rfl (h := ?_)
      refine AOL.callD rfl (cs1) (by kernel_rfl) rfl rfl (h := ?_)
      iterate 1 refine AOL.s1 (h := ?_)
      refine AOL.nil ?_
      refine AW.kq [2, 3, 4, 5, 6, 8, 9] (h := ?_)
      clear cff cl1 ctt cw1 cs1
      repeat refine AW.seq ?_
      refine AW.reg ?_
      iterate 2 refine AOL.s1 (h := ?_)
      refine AOL.nil ?_
      refine AW.kq [2, 3, 4, 5, 6, 8] (h := ?_)
      refine AW.let 1144 (h := ?_)
      repeat refine AW.seq ?_
      refine AW.reg ?_
      iterate 4 refine AOL.s1 (h := ?_)
      refine AOL.nil ?_
      refine AW.kq [2, 3, 4, 5, 6, 8, 59] (h := ?_)
      repeat refine AW.seq ?_
      refine AW.cond rfl (fun g_ => ?_) (fun g_ => ?_)
      · have g1 : bit = 1 := by simpa using g_
        rw [if_pos g1] at he
        have pw_ := ptt.wx
        have cl2 := obolref04_line_c ptt pa pq
        have pl2 := rlineE_lt (T0, T1, T2) (false, ax, ay) (false, qx, qy) hqw.2
        have cta := obolref03_Sum_c ptt pa
        have pta := sumP_pt ptt pa
        generalize rlineE (T0, T1, T2) (false, ax, ay) (false, qx, qy) = M at *
        generalize sumP (T0, T1, T2) (false, ax, ay) = W at *
        obtain ⟨M0, M1⟩ := M
        obtain ⟨W0, W1, W2⟩ := W
        have cw2 := obolref04_wall_c (a0 := W0) (q0 := false) (ay := W2) (qy := qy) pta.wx.1 hqw.1
        have pw2 := wallE_lt (W0, W1, W2) (false, qx, qy)
        generalize wallE (W0, W1, W2) (false, qx, qy) = Y at *
        obtain ⟨Y0, Y1⟩ := Y
        have cs2 := obolref04_step_c ps1.1.w ps1.2.w pl2.1.w pl2.2.w pw2.1.w pw2.2.w
        have ps2 := rstepE_lt (G0, G1) (M0, M1) (Y0, Y1)
        generalize rstepE (G0, G1) (M0, M1) (Y0, Y1) = H at *
        obtain ⟨H0, H1⟩ := H
        clear g1 g_ sh1 sh2 sh3
        repeat refine AW.seq ?_
        refine AW.reg ?_
        iterate 2 refine AOL.s1 (h := ?_)
        refine AOL.callD rfl (cta) (by kernel_rfl) rfl rfl (h := ?_)
        iterate 2 refine AOL.s1 (h := ?_)
        refine AOL.nil ?_
        refine AW.kq [2, 3, 4, 5, 6, 8, 10] (h := ?_)
        repeat refine AW.seq ?_
        refine AW.drw 8 [] (by kernel_rfl) (h := ?_)
        iterate 4 refine ADL.dm 1 (h := ?_)
        refine ADL.call rfl (cl2) (by kernel_rfl) rfl rfl (h := ?_)
        iterate 2 refine ADL.dm 1 (h := ?_)
        refine ADL.call rfl (cw2) (by kernel_rfl) rfl rfl (h := ?_)
        refine ADL.done hmix rfl rfl (hT := ?_)
        refine AOL.callD rfl (cs2) (by kernel_rfl) rfl rfl (h := ?_)
        iterate 1 refine AOL.s1 (h := ?_)
        refine AOL.nil ?_
        refine AW.kq [2, 3, 4, 5, 6, 8, 10] (h := ?_)
        clear cta cl2 cw2 cs2
        repeat refine AW.seq ?_
        refine AW.reg ?_
        iterate 2 refine AOL.s1 (h := ?_)
        refine AOL.nil ?_
        refine AW.let 1160 (h := ?_)
        repeat refine AW.seq ?_
        refine AW.reg ?_
        iterate 3 refine AOL.s1 (h := ?_)
        refine AOL.nil ?_
        exact ⟨n, by omega, _, _, _, _, _, rfl, by omega, ps2, pta, he⟩
      · have g1 : ¬ bit = 1 := by simpa using g_
        rw [if_neg g1] at he
        clear g1 g_ sh1 sh2 sh3
        refine AW.skip ?_
        repeat refine AW.seq ?_
        refine AW.reg ?_
        iterate 3 refine AOL.s1 (h := ?_)
        refine AOL.nil ?_
        exact ⟨n, by omega, _, _, _, _, _, rfl, by omega, ps1, ptt, he⟩
    · cases c_
end Go.Proofs.Ytibmidoepeghpaa.E.M

