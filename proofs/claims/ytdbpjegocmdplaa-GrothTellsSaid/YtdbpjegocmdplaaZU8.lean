/- Texts joined: ZTQapE, ZTQapF, ZTQapG, ZTQapH, ZTQapI, ZTQapJ, ZTQapK. -/
import Derived.Test.YtdbpjegocmdplaaZU7
import Derived.Test.YtdbpjegocmdplaaProg
import Derived.KernelRfl
section
/- The values of a domain's base, and of all variables: contracts over E. -/
set_option linter.unusedVariables false
set_option linter.unusedSimpArgs false
set_option maxRecDepth 10000
open Go Go.Proofs.Ytdbpjegocmdplaa.E Go.Proofs
namespace Go.Proofs.Ytdbpjegocmdplaa.E
theorem Fn.mono {P f args hin R R'} (h : Fn P f args hin R) (hr : ∀ r h, R r h → R' r h) : Fn P f args hin R' := fun ρ F w vs h1 h2 =>
  (h ρ F w vs h1 h2).mono fun e w' ⟨v, ρ', F', r, h, he, hR, rest⟩ => ⟨v, ρ', F', r, h, he, hr _ _ hR, rest⟩
end Go.Proofs.Ytdbpjegocmdplaa.E
namespace Go.Proofs.Ytdbpjegocmdplaa.E.M
theorem cmk64 {n : Nat} (h : n ≤ 1000000000) : cMake Try.prog 28 (n:Int) (n:Int) = some (25, 1, fm u1 (List.replicate n 0)) := by
  have tf := tfr
  rw [← fm_rep]
  simp only [cMake, tf]
  rw [if_pos (by refine ⟨rfl, by decide, rfl, by omega, by omega, by omega, by omega⟩)]
  rfl
/-- a row that is filled from its begin on -/
def upL (f : Nat → Int) (n j : Nat) : List Int := (List.range j).map f ++ List.replicate (n - j) 0
theorem upL_zero (f : Nat → Int) (n : Nat) : upL f n 0 = List.replicate n 0 := by simp [upL]
theorem upL_full (f : Nat → Int) (n : Nat) : upL f n n = (List.range n).map f := by simp [upL]
theorem upL_len (f : Nat → Int) {n j : Nat} (h : j ≤ n) : (upL f n j).length = n := by simp [upL]; omega
theorem upL_set (f : Nat → Int) {n j : Nat} (h : j < n) : (upL f n j).set j (f j) = upL f n (j + 1) := by
  have e : n - j = (n - (j + 1)) + 1 := by omega
  unfold upL
  rw [List.set_append_right _ _ (by simp), e, List.replicate_succ]
  simp [List.range_succ]
def lagI (x b w : Int) (j : Nat) : Int := if (x - pwq w j) % 288230376287764481 = 0 then 1 else b * pwq w j % 288230376287764481 * ipow 288230376287764481 ((x - pwq w j) % 288230376287764481) 288230376287764479 % 288230376287764481
def zF (k : Nat) (x : Int) : Int := (ipow 288230376287764481 x (2 ^ k : Nat) - 1) % 288230376287764481
def byF (k : Nat) (x : Int) : Int := zF k x * ipow 288230376287764481 (2 ^ k : Nat) 288230376287764479 % 288230376287764481
def lagF (k : Nat) (x : Int) : List Int := (List.range (2 ^ k)).map (lagI x (byF k x) (rootF k))
theorem lagI_w (x b w : Int) (j : Nat) : w64 (lagI x b w j) := by
  unfold lagI; split
  · decide
  · exact w64_r _
theorem lagF_w (k : Nat) (x : Int) : wV (lagF k x) := by
  intro v hv
  obtain ⟨j, _, rfl⟩ := List.mem_map.1 hv
  exact lagI_w _ _ _ j
theorem lagF_len (k : Nat) (x : Int) : (lagF k x).length = 2 ^ k := by simp [lagF]
set_option maxHeartbeats 8000000 in
theorem poly_Lagrange_o {k : Nat} {x : Int} (h : k ≤ 12) (hx : w64 x) : Fn Try.prog 50 [i k, u x] [] (Tells (.tup [.ref 1000 0 (2 ^ k) 1, nil_]) [(1000, blk (lagF k x))]) := by
  refine Fn.enter Try.func50 Try.ntmps50 rfl (h := ?_)
  have tf := tfr
  have ot_ : (false || true) = true := rfl
  have cr := poly_Root_c h
  have hr := rootF_w k h
  have k0 : ¬ (k:Int) < 0 := by omega
  have sh := shlu (k := k) (by omega)
  rw [Int.toNat_natCast] at sh
  obtain ⟨t1, t2⟩ := two_le h
  have hN : w64 ((2 ^ k : Nat) : Int) := by omega
  have hmk := mk64 (n := 2 ^ k) (by omega)
  have e1 : lagF k x = (List.range (2 ^ k)).map (lagI x (byF k x) (rootF k)) := rfl
  have e2 : byF k x = zF k x * ipow 288230376287764481 (2 ^ k : Nat) 288230376287764479 % 288230376287764481 := rfl
  have e3 : zF k x = (ipow 288230376287764481 x (2 ^ k : Nat) - 1) % 288230376287764481 := rfl
  have z0 : (0:Int) ≤ 0 := by decide
  rw [e1, e2, e3]
  clear e1 e2 e3
  generalize rootF k = w at *
  generalize 2 ^ k = N at *
  have p1 := ipow_w (a := x) (e := (N:Int)) hx.1 hN
  have p2 := ipow_w (a := (N:Int)) (e := 288230376287764479) hN.1 (by decide)
  repeat refine AW.seq ?_
  refine AW.reg ?_
  iterate 2 refine AOL.s1 (h := ?_)
  refine AOL.nil ?_
  refine AW.kq [0, 1] (h := ?_)
  repeat refine AW.seq ?_
  refine AW.reg ?_
  iterate 1 refine AOL.s1 (h := ?_)
  refine AOL.callD rfl (cr) (by kernel_rfl) rfl rfl (h := ?_)
  iterate 5 refine AOL.s1 (h := ?_)
  refine AOL.nil ?_
  refine AW.kq [0, 1, 6, 7] (h := ?_)
  repeat refine AW.seq ?_
  refine AW.reg ?_
  iterate 2 refine AOL.s1 (h := ?_)
  refine AOL.nil ?_
  refine AW.kq [0, 1, 6, 7, 21] (h := ?_)
  repeat refine AW.seq ?_
  refine AW.cond rfl (fun c_ => ?_) (fun c_ => ?_)
  · cases c_
  refine AW.skip ?_
  repeat refine AW.seq ?_
  refine AW.reg ?_
  iterate 3 refine AOL.s1 (h := ?_)
  refine AOL.nil ?_
  refine AW.kq [1, 6, 8] (h := ?_)
  repeat refine AW.seq ?_
  refine AW.reg ?_
  iterate 2 refine AOL.s1 (h := ?_)
  refine AOL.callD rfl (modular_Pow_c hR hx hN) (by kernel_rfl) rfl rfl (h := ?_)
  refine AOL.callD rfl (modular_Sub_c hR p1 (by decide)) (by kernel_rfl) rfl rfl (h := ?_)
  iterate 1 refine AOL.s1 (h := ?_)
  refine AOL.nil ?_
  refine AW.kq [1, 6, 8, 9] (h := ?_)
  repeat refine AW.seq ?_
  refine AW.reg ?_
  iterate 2 refine AOL.s1 (h := ?_)
  refine AOL.callD rfl (modular_Pow_c hR hN (by decide)) (by kernel_rfl) rfl rfl (h := ?_)
  refine AOL.callD rfl (poly_mul_c (w64_r _) p2) (by kernel_rfl) rfl rfl (h := ?_)
  iterate 1 refine AOL.s1 (h := ?_)
  refine AOL.nil ?_
  refine AW.kq [1, 6, 8, 10] (h := ?_)
  repeat refine AW.seq ?_
  refine AW.reg ?_
  iterate 3 refine AOL.s1 (h := ?_)
  refine AOL.nil ?_
  refine AW.kq [1, 6, 10, 11] (h := ?_)
  repeat refine AW.seq ?_
  refine AW.reg ?_
  iterate 1 refine AOL.s1 (h := ?_)
  refine AOL.nil ?_
  refine AW.kq [1, 6, 10, 11, 12] (h := ?_)
  repeat refine AW.seq ?_
  refine AW.reg ?_
  iterate 3 refine AOL.s1 (h := ?_)
  refine AOL.nil ?_
  refine AW.kq [1, 6, 10, 11, 12, 36, 37] (h := ?_)
  repeat refine AW.seq ?_
  refine AW.block ?_
  repeat refine AW.seq ?_
  clear hmk
  generalize hb : (ipow 288230376287764481 x N - 1) % 288230376287764481 * ipow 288230376287764481 N 288230376287764479 % 288230376287764481 = b at *
  have hbw : w64 b := by rw [← hb]; exact w64_r _
  clear hb p1 p2
  refine AW.loopK [1, 6, 10, 11, 12, 36, 37] (fun n s => ∃ (j : Nat), s = ⟨62, [(1, u x), (6, u w), (10, u b), (11, .ref 1544 0 N 1), (12, u (pwq w j)), (36, i N), (37, i j)], [(1544, blk (upL (lagI x b w) N j))]⟩ ∧ j ≤ N ∧ n = N - j) (N) ?_ ?_
  · exact ⟨0, by rw [upL_zero]; rfl, Nat.zero_le _, rfl⟩
  rintro n s ⟨j, rfl, jN, rfl⟩
  repeat refine AW.seq ?_
  refine AW.reg ?_
  iterate 1 refine AOL.s1 (h := ?_)
  refine AOL.nil ?_
  refine AW.kq [1, 6, 10, 11, 12, 36, 37, 38] (h := ?_)
  repeat refine AW.seq ?_
  refine AW.cond rfl (fun c_ => ?_) (fun c_ => ?_)
  · have hj : j < N := by have : (j:Int) < N := by simpa using c_
                          omega
    have j0 : (0:Int) ≤ j := by omega
    have j1 : (j:Int) < N := by omega
    have hw := incq hj (by omega)
    have hpw := pw_w w j
    have hset := upL_set (lagI x b w) hj
    have hlen := upL_len (lagI x b w) jN
    have hfs := fset (upL (lagI x b w) N j) j (lagI x b w j)
    rw [hset] at hfs
    have hfl := fml (upL (lagI x b w) N j)
    rw [hlen] at hfl
    have hjs : j + 1 ≤ N := hj
    have hd : (x - pwq w j) % 288230376287764481 = 0 ∨ ¬ (x - pwq w j) % 288230376287764481 = 0 := by omega
    clear c_ hset hlen
    refine AW.skip ?_
    repeat refine AW.seq ?_
    refine AW.block ?_
    repeat refine AW.seq ?_
    refine AW.reg ?_
    iterate 2 refine AOL.s1 (h := ?_)
    refine AOL.nil ?_
    refine AW.kq [1, 6, 10, 11, 12, 13, 36, 37] (h := ?_)
    repeat refine AW.seq ?_
    refine AW.reg ?_
    iterate 2 refine AOL.s1 (h := ?_)
    refine AOL.callD rfl (modular_Sub_c hR hx hpw) (by kernel_rfl) rfl rfl (h := ?_)
    iterate 1 refine AOL.s1 (h := ?_)
    refine AOL.nil ?_
    refine AW.kq [1, 6, 10, 11, 12, 13, 14, 36, 37] (h := ?_)
    repeat refine AW.seq ?_
    refine AW.reg ?_
    iterate 2 refine AOL.s1 (h := ?_)
    refine AOL.nil ?_
    refine AW.kq [1, 6, 10, 11, 12, 13, 14, 36, 37, 44] (h := ?_)
    repeat refine AW.seq ?_
    refine AW.midK [1, 6, 10, 11, 12, 36, 37] (fun t => t = ⟨62, [(1, u x), (6, u w), (10, u b), (11, .ref 1544 0 N 1), (12, u (pwq w j)), (36, i N), (37, i j)], [(1544, blk (upL (lagI x b w) N (j + 1)))]⟩) ?_ ?_
    · refine AW.cond rfl (fun d_ => ?_) (fun d_ => ?_)
      · have hv : lagI x b w j = 1 := by unfold lagI; rw [if_pos (by simpa using d_)]
        rw [hv] at hfs
        repeat refine AW.seq ?_
        refine AW.reg ?_
        iterate 4 refine AOL.s1 (h := ?_)
        refine AOL.nil ?_
        exact rfl
      · have hv : lagI x b w j = b * pwq w j % 288230376287764481 * ipow 288230376287764481 ((x - pwq w j) % 288230376287764481) 288230376287764479 % 288230376287764481 := by unfold lagI; rw [if_neg (by simpa using d_)]
        rw [hv] at hfs
        clear hv
        have hdw := w64_r (x - pwq w j)
        repeat refine AW.seq ?_
        refine AW.reg ?_
        iterate 4 refine AOL.s1 (h := ?_)
        refine AOL.callD rfl (poly_mul_c hbw hpw) (by kernel_rfl) rfl rfl (h := ?_)
        iterate 1 refine AOL.s1 (h := ?_)
        refine AOL.callD rfl (modular_Pow_c hR hdw (by decide)) (by kernel_rfl) rfl rfl (h := ?_)
        refine AOL.callD rfl (poly_mul_c (w64_r _) (ipow_w hdw.1 (by decide))) (by kernel_rfl) rfl rfl (h := ?_)
        iterate 2 refine AOL.s1 (h := ?_)
        refine AOL.nil ?_
        exact rfl
    rintro t rfl
    repeat refine AW.seq ?_
    refine AW.reg ?_
    iterate 2 refine AOL.s1 (h := ?_)
    refine AOL.callD rfl (poly_mul_c hpw hr) (by kernel_rfl) rfl rfl (h := ?_)
    iterate 1 refine AOL.s1 (h := ?_)
    refine AOL.nil ?_
    repeat refine AW.seq ?_
    refine AW.reg ?_
    iterate 2 refine AOL.s1 (h := ?_)
    refine AOL.nil ?_
    exact ⟨N - (j + 1), by omega, j + 1, rfl, hj, rfl⟩
  · have hj : j = N := by have : ¬ (j:Int) < N := by simpa using c_
                          omega
    subst hj
    rw [upL_full]
    repeat refine AW.seq ?_
    refine AW.exit ?_
    repeat (first | refine Kseq.ex ?_ | refine Kloop.ex ?_ | refine Kblock.miss (by decide) ?_)
    refine Kblock.hit ?_
    refine AW.kq [11] (h := ?_)
    repeat refine AW.seq ?_
    refine AW.reg ?_
    iterate 3 refine AOL.s1 (h := ?_)
    refine AOL.nil ?_
    refine AW.kq [4, 5] (h := ?_)
    repeat refine AW.seq ?_
    refine AW.ret ?_
    refine ⟨_, [(1544, _)], rfl, (fun p_ hp_ => by simp only [List.mem_singleton] at hp_; subst hp_; first | exact List.mem_cons_self | exact List.mem_cons_of_mem _ List.mem_cons_self | exact List.mem_cons_of_mem _ (List.mem_cons_of_mem _ List.mem_cons_self)), ?_⟩
    refine Tells.one 1544 (by decide) ?_
    first | rfl | exact frees_fm (fun _ => rfl) _
    skip
end Go.Proofs.Ytdbpjegocmdplaa.E.M
end
section
/- All variables' values anywhere: contracts over E. -/
set_option linter.unusedVariables false
set_option linter.unusedSimpArgs false
set_option maxRecDepth 10000
open Go Go.Proofs.Ytdbpjegocmdplaa.E Go.Proofs
namespace Go.Proofs.Ytdbpjegocmdplaa.E.M
def Hid (p : Prop) : Prop := p
theorem hid {p : Prop} (h : p) : Hid p := h
theorem poly_Lagrange_c {k : Nat} {x : Int} (h : k ≤ 12) (hx : w64 x) : Fn Try.prog 50 [i k, u x] [] (fun r _ => r = .tup [ul (lagF k x), nil_]) := by
  refine (Fn.frozen (poly_Lagrange_o h hx) (frees_fm (fun _ => rfl) _)).mono ?_
  rintro r _ rfl
  show AV.tup [.sl (2 ^ k) (sub 0 (2 ^ k * 1) (fm u1 (lagF k x))), nil_] = _
  rw [sub_all (Nat.le_of_eq (by rw [fml, lagF_len, Nat.mul_one]))]
  show AV.tup [.sl (2 ^ k) (fm u1 (lagF k x)), nil_] = AV.tup [.sl (lagF k x).length (fm u1 (lagF k x)), nil_]
  rw [lagF_len]
def addF (by_ : Int) : List Int → List Tm → List Int
  | L, [] => L
  | L, t :: l => addF by_ (L.set t.v.toNat ((L[t.v.toNat]?.getD 0 + t.k * by_ % 288230376287764481) % 288230376287764481)) l
theorem addF_len (by_ : Int) : ∀ (l : List Tm) (L : List Int), (addF by_ L l).length = L.length
  | [], L => rfl
  | t :: l, L => by simp only [addF]; rw [addF_len by_ l, List.length_set]
theorem set_w {L : List Int} (h : wV L) {v : Int} (hv : w64 v) (j : Nat) : wV (L.set j v) := by
  intro a ha
  rcases List.mem_or_eq_of_mem_set ha with h' | rfl
  · exact h a h'
  · exact hv
theorem addF_w (by_ : Int) : ∀ (l : List Tm) (L : List Int), wV L → wV (addF by_ L l)
  | [], L, h => h
  | t :: l, L, h => addF_w by_ l _ (set_w h (w64_r _) _)
theorem fm_ne {L : List Int} (h : 0 < L.length) : fm u1 L ≠ [] := by
  intro e; have := fml L; rw [e] at this; simp at this; omega
abbrev inT (n : Nat) (l : List Tm) : Prop := ∀ t ∈ l, 0 ≤ t.v ∧ t.v < n ∧ w64 t.k
set_option maxHeartbeats 8000000 in
theorem qap_add_c {n : Nat} {L : List Int} {l : List Tm} {by_ : Int} (hL : L.length = n) (hn : 0 < n) (hw : wV L) (hl : inT n l) (hll : l.length < 1000000000) (hb : w64 by_) : Fn Try.prog 51 [.ref 0 0 n 1, slF tm l, u by_] [(0, blk L)] (Tells (.tup []) [(0, blk (addF by_ L l))]) := by
  refine Fn.enter Try.func51 Try.ntmps51 rfl (h := ?_)
  have tf := tfr
  have ot_ : (false || true) = true := rfl
  repeat refine AW.seq ?_
  refine AW.reg ?_
  iterate 3 refine AOL.s1 (h := ?_)
  refine AOL.nil ?_
  refine AW.kq [0, 2, 8, 9, 10] (h := ?_)
  repeat refine AW.seq ?_
  refine AW.block ?_
  repeat refine AW.seq ?_
  refine AW.loopK [0, 2, 8, 9, 10] (fun n' s => ∃ (k : Nat) (r : List Tm) (M : List Int), s = ⟨29, [(0, .ref 0 0 n 1), (2, u by_), (8, slF tm l), (9, i l.length), (10, i k)], [(0, blk M)]⟩ ∧ l.drop k = r ∧ k ≤ l.length ∧ n' = r.length ∧ M.length = n ∧ wV M ∧ addF by_ M r = addF by_ L l) (l.length) ?_ ?_
  · exact ⟨0, l, L, rfl, rfl, Nat.zero_le _, rfl, hL, hw, rfl⟩
  rintro n' s ⟨k, r, M, rfl, hr, hkl, rfl, hM, hMw, hi⟩
  repeat refine AW.seq ?_
  refine AW.reg ?_
  iterate 1 refine AOL.s1 (h := ?_)
  refine AOL.nil ?_
  refine AW.kq [0, 2, 8, 9, 10, 11] (h := ?_)
  repeat refine AW.seq ?_
  refine AW.cond rfl (fun c_ => ?_) (fun c_ => ?_)
  · obtain ⟨t, r, rfl⟩ := ends_cons hr hkl (by simpa using c_)
    obtain ⟨hlt, hr', ht⟩ := dconsq hr
    have hd : (fm tm l).drop (k * 2) = i t.v :: u t.k :: fm tm r := fm_drop tm_len hr
    have k0 : (0:Int) ≤ k := by omega
    have k1 : (k:Int) < l.length := by omega
    have hiw := incq hlt hll
    obtain ⟨v0, v1, tk⟩ := hl t (List.mem_of_getElem? ht)
    obtain ⟨tv, tk_⟩ := t
    simp only at hd v0 v1 tk
    obtain ⟨m, rfl⟩ := Int.eq_ofNat_of_zero_le v0
    obtain ⟨v, hv, hvw, hvd⟩ := at_nat (V := M) (n := m) (by rw [hM]; exact v1) hMw
    have hn2 : addF by_ (M.set m ((v + tk_ * by_ % 288230376287764481) % 288230376287764481)) r = addF by_ L l := by
      rw [← hi]; simp only [addF, Int.toNat_natCast, hv, Option.getD_some]
    have hfs := fset M m ((v + tk_ * by_ % 288230376287764481) % 288230376287764481)
    have hfl := fml M
    rw [hM] at hfl
    have hms : m + 1 ≤ n := by omega
    have hMs : (M.set m ((v + tk_ * by_ % 288230376287764481) % 288230376287764481)).length = n := by rw [List.length_set, hM]
    have hMw2 := set_w hMw (w64_r (v + tk_ * by_ % 288230376287764481)) m
    generalize hM2 : M.set m ((v + tk_ * by_ % 288230376287764481) % 288230376287764481) = M2 at *
    replace hMs := hid hMs
    replace hM := hid hM
    clear hr ht hi c_ hv
    refine AW.skip ?_
    repeat refine AW.seq ?_
    refine AW.block ?_
    repeat refine AW.seq ?_
    refine AW.reg ?_
    iterate 4 refine AOL.s1 (h := ?_)
    refine AOL.nil ?_
    refine AW.kq [0, 2, 7, 8, 9, 10] (h := ?_)
    repeat refine AW.seq ?_
    refine AW.drw 13 [] (by kernel_rfl) (h := ?_)
    iterate 11 refine ADL.dm 1 (h := ?_)
    refine ADL.call rfl (modular_Mul_c hR tk hb) (by kernel_rfl) rfl rfl (h := ?_)
    refine ADL.call rfl (modular_Add_c hR hvw (w64_r _)) (by kernel_rfl) rfl rfl (h := ?_)
    refine ADL.done hmix rfl rfl (hT := ?_)
    iterate 2 refine AOL.s1 (h := ?_)
    refine AOL.nil ?_
    repeat refine AW.seq ?_
    refine AW.let 1112 (h := ?_)
    refine AW.reg ?_
    iterate 2 refine AOL.s1 (h := ?_)
    refine AOL.nil ?_
    exact ⟨r.length, by simp, k + 1, r, M2, rfl, hr', hlt, rfl, hMs, hMw2, hn2⟩
  · obtain rfl := ends_nil hr (by simpa using c_)
    have hg : M = addF by_ L l := hi
    subst hg
    repeat refine AW.seq ?_
    refine AW.exit ?_
    repeat (first | refine Kseq.ex ?_ | refine Kloop.ex ?_ | refine Kblock.miss (by decide) ?_)
    refine Kblock.hit ?_
    exact ⟨_, [(0, _)], rfl, (fun p_ hp_ => hp_), Tells.old⟩
theorem snd_ok {vars : Int} : ∀ (l : List Tm) (last : Int), sndF vars last l = true → ∀ t ∈ l, last < t.v ∧ t.v < vars ∧ 1 ≤ t.k ∧ t.k < 288230376287764481
  | [], _, _, t, ht => by cases ht
  | t :: l, last, h, t', ht => by
    simp only [sndF] at h
    split at h
    · cases h
    · rename_i hc
      rcases List.mem_cons.1 ht with rfl | ht
      · omega
      · have := snd_ok l t.v h t' ht
        omega
theorem rows_ok {vars : Int} : ∀ (l : List Rw), rowsF vars l = true → ∀ r ∈ l, sndF vars (-1) r.a = true ∧ sndF vars (-1) r.b = true ∧ sndF vars (-1) r.c = true
  | [], _, r, hr => by cases hr
  | q :: l, h, r, hr => by
    simp only [rowsF] at h
    split at h
    · rename_i hq
      rcases List.mem_cons.1 hr with rfl | hr
      · simp only [rowF, Bool.and_eq_true] at hq; exact ⟨hq.1.1, hq.1.2, hq.2⟩
      · exact rows_ok l h r hr
    · cases h
theorem chk_rows {s : Rk} (h : chkF s = true) : rowsF s.v s.l = true := by
  unfold chkF at h
  split at h
  · cases h
  · exact h
theorem chk_in {s : Rk} {n : Nat} (h : chkF s = true) (hn : s.v = n) : ∀ r ∈ s.l, inT n r.a ∧ inT n r.b ∧ inT n r.c := by
  intro r hr
  obtain ⟨h1, h2, h3⟩ := rows_ok _ (chk_rows h) r hr
  refine ⟨fun t ht => ?_, fun t ht => ?_, fun t ht => ?_⟩
  · have := snd_ok _ _ h1 t ht; rw [hn] at this; refine ⟨by omega, by omega, by omega, by omega⟩
  · have := snd_ok _ _ h2 t ht; rw [hn] at this; refine ⟨by omega, by omega, by omega, by omega⟩
  · have := snd_ok _ _ h3 t ht; rw [hn] at this; refine ⟨by omega, by omega, by omega, by omega⟩
def atF (sel : Rw → List Tm) (base : List Int) : Nat → List Rw → List Int → List Int
  | _, [], L => L
  | j, r :: l, L => atF sel base (j + 1) l (addF (base[j]?.getD 0) L (sel r))
def atL (sel : Rw → List Tm) (s : Rk) (x : Int) : List Int := atF sel (lagF (lg s.l.length) x) 0 s.l (List.replicate s.v.toNat 0)
theorem atF_len (sel : Rw → List Tm) (base : List Int) : ∀ (l : List Rw) (j : Nat) (L : List Int), (atF sel base j l L).length = L.length
  | [], j, L => rfl
  | r :: l, j, L => by simp only [atF]; rw [atF_len sel base l, addF_len]
theorem atF_w (sel : Rw → List Tm) (base : List Int) : ∀ (l : List Rw) (j : Nat) (L : List Int), wV L → wV (atF sel base j l L)
  | [], j, L, h => h
  | r :: l, j, L, h => atF_w sel base l _ _ (addF_w _ _ _ h)
theorem lgF_two (n : Nat) : ∀ f k, n ≤ 2 ^ (k + f) → n ≤ 2 ^ lgF n f k
  | 0, k, h => by simpa [lgF] using h
  | f + 1, k, h => by
    simp only [lgF]; split
    · assumption
    · exact lgF_two n f (k + 1) (by rw [show k + 1 + f = k + (f + 1) by omega]; exact h)
theorem lgF_le' (n : Nat) : ∀ f k m, n ≤ 2 ^ m → k ≤ m → m ≤ k + f → lgF n f k ≤ m
  | 0, k, m, _, h1, h2 => by simp [lgF]; omega
  | f + 1, k, m, h, h1, h2 => by
    simp only [lgF]; split
    · omega
    · rename_i hc
      have : k ≠ m := by rintro rfl; exact hc h
      exact lgF_le' n f (k + 1) m h (by omega) (by omega)
theorem lg_le {n : Nat} (h : n ≤ 4096) : lg n ≤ 12 ∧ n ≤ 2 ^ lg n := ⟨lgF_le' n 13 0 12 (by simpa using h) (by omega) (by omega), lgF_two n 13 0 (by simp; omega)⟩
theorem rep_w (n : Nat) : wV (List.replicate n 0) := by
  intro v hv; rw [List.eq_of_mem_replicate hv]; decide
set_option maxHeartbeats 16000000 in
theorem qap_At_o {s : Rk} {x : Int} {n : Nat} (hS : Len s) (hx : w64 x) (hc : chkF s = true) (hn : s.v = n) : Fn Try.prog 24 [.agg (rk s), u x] [] (Tells (.tup [.ref 1000 0 n 1, .ref 1001 0 n 1, .ref 1002 0 n 1, u (zF (lg s.l.length) x), nil_]) [(1000, blk (atL Rw.a s x)), (1001, blk (atL Rw.b s x)), (1002, blk (atL Rw.c s x))]) := by
  refine Fn.enter Try.func24 Try.ntmps24 rfl (h := ?_)
  have tf := tfr
  have ot_ : (false || true) = true := rfl
  obtain ⟨sv, sp, sl_⟩ := s
  simp only at hn
  subst hn
  have cs := qap_Size_c hS
  have esz : sizeF ⟨(n:Int), sp, sl_⟩ = [i (lg sl_.length : Nat), nil_] := by simp [sizeF, hc]
  rw [esz] at cs
  have hl4 := chk_len hc
  simp only at hl4
  obtain ⟨k12, kN⟩ := lg_le hl4
  have cl := poly_Lagrange_c (x := x) k12 hx
  have hrows := chk_in (n := n) hc rfl
  simp only at hrows
  obtain ⟨v1, v2, _, _⟩ := chk_v hc
  simp only at v1 v2
  have hlens := hS.2
  simp only at hlens
  have hmk := cmk64 (n := n) (by omega)
  have eA : atL Rw.a ⟨(n:Int), sp, sl_⟩ x = atF Rw.a (lagF (lg sl_.length) x) 0 sl_ (List.replicate n 0) := rfl
  have eB : atL Rw.b ⟨(n:Int), sp, sl_⟩ x = atF Rw.b (lagF (lg sl_.length) x) 0 sl_ (List.replicate n 0) := rfl
  have eC : atL Rw.c ⟨(n:Int), sp, sl_⟩ x = atF Rw.c (lagF (lg sl_.length) x) 0 sl_ (List.replicate n 0) := rfl
  rw [eA, eB, eC]
  clear eA eB eC esz hS hc
  simp only [zF]
  have hbw := lagF_w (lg sl_.length) x
  have hbl := lagF_len (lg sl_.length) x
  have sh := shlu (k := lg sl_.length) (by omega)
  rw [Int.toNat_natCast] at sh
  have kn : ¬ ((lg sl_.length : Nat) : Int) < 0 := by omega
  obtain ⟨t1, t2⟩ := two_le k12
  have hN : w64 ((2 ^ lg sl_.length : Nat) : Int) := by omega
  have p1 := ipow_w (a := x) (e := ((2 ^ lg sl_.length : Nat) : Int)) hx.1 hN
  generalize lg sl_.length = k at *
  generalize 2 ^ k = N at *
  generalize lagF k x = B at *
  replace hbl := hid hbl
  repeat refine AW.seq ?_
  refine AW.reg ?_
  iterate 6 refine AOL.s1 (h := ?_)
  refine AOL.nil ?_
  refine AW.kq [1, 2] (h := ?_)
  repeat refine AW.seq ?_
  refine AW.reg ?_
  iterate 1 refine AOL.s1 (h := ?_)
  refine AOL.callD rfl (cs) (by kernel_rfl) rfl rfl (h := ?_)
  iterate 5 refine AOL.s1 (h := ?_)
  refine AOL.nil ?_
  refine AW.kq [1, 2, 8, 9] (h := ?_)
  repeat refine AW.seq ?_
  refine AW.reg ?_
  iterate 2 refine AOL.s1 (h := ?_)
  refine AOL.nil ?_
  refine AW.kq [1, 2, 8, 9, 19] (h := ?_)
  repeat refine AW.seq ?_
  refine AW.cond rfl (fun c_ => ?_) (fun c_ => ?_)
  · cases c_
  refine AW.skip ?_
  repeat refine AW.seq ?_
  refine AW.reg ?_
  iterate 2 refine AOL.s1 (h := ?_)
  refine AOL.callD rfl (cl) (by kernel_rfl) rfl rfl (h := ?_)
  iterate 5 refine AOL.s1 (h := ?_)
  refine AOL.nil ?_
  refine AW.kq [1, 2, 8, 9, 10] (h := ?_)
  repeat refine AW.seq ?_
  refine AW.reg ?_
  iterate 2 refine AOL.s1 (h := ?_)
  refine AOL.nil ?_
  refine AW.kq [1, 2, 8, 9, 10, 28] (h := ?_)
  repeat refine AW.seq ?_
  refine AW.cond rfl (fun c_ => ?_) (fun c_ => ?_)
  · cases c_
  refine AW.skip ?_
  repeat refine AW.seq ?_
  refine AW.drw 11 [1512, 1560, 1608] (by kernel_rfl) (h := ?_)
  iterate 11 refine ADL.dm 1 (h := ?_)
  refine ADL.done hmix rfl rfl (hT := ?_)
  iterate 1 refine AOL.s1 (h := ?_)
  refine AOL.nil ?_
  refine AW.kq [1, 2, 4, 5, 6, 9, 10] (h := ?_)
  repeat refine AW.seq ?_
  refine AW.reg ?_
  iterate 4 refine AOL.s1 (h := ?_)
  refine AOL.nil ?_
  refine AW.kq [1, 4, 5, 6, 9, 10, 40, 41, 42] (h := ?_)
  repeat refine AW.seq ?_
  refine AW.block ?_
  repeat refine AW.seq ?_
  refine AW.let 1032 (h := ?_)
  clear hmk cl cs
  refine AW.loopK [1, 4, 5, 6, 9, 10, 40, 41, 42] (fun n' s => ∃ (j : Nat) (r : List Rw) (A1 B1 C1 : List Int), s = ⟨80, [(1, u x), (4, .ref 1512 0 n 1), (5, .ref 1560 0 n 1), (6, .ref 1608 0 n 1), (9, i k), (10, ul B), (40, slF rw_ sl_), (41, i sl_.length), (42, i j)], [(1512, blk A1), (1560, blk B1), (1608, blk C1)]⟩ ∧ sl_.drop j = r ∧ j ≤ sl_.length ∧ n' = r.length ∧ A1.length = n ∧ B1.length = n ∧ C1.length = n ∧ wV A1 ∧ wV B1 ∧ wV C1 ∧ atF Rw.a B j r A1 = atF Rw.a B 0 sl_ (List.replicate n 0) ∧ atF Rw.b B j r B1 = atF Rw.b B 0 sl_ (List.replicate n 0) ∧ atF Rw.c B j r C1 = atF Rw.c B 0 sl_ (List.replicate n 0)) (sl_.length) ?_ ?_
  · exact ⟨0, sl_, List.replicate n 0, List.replicate n 0, List.replicate n 0, rfl, rfl, Nat.zero_le _, rfl, List.length_replicate, List.length_replicate, List.length_replicate, rep_w n, rep_w n, rep_w n, rfl, rfl, rfl⟩
  rintro n' s ⟨j, r, A1, B1, C1, rfl, hr, hkl, rfl, la, lb, lc, wa, wb, wc, iA, iB, iC⟩
  repeat refine AW.seq ?_
  refine AW.reg ?_
  iterate 1 refine AOL.s1 (h := ?_)
  refine AOL.nil ?_
  refine AW.kq [1, 4, 5, 6, 9, 10, 40, 41, 42, 43] (h := ?_)
  repeat refine AW.seq ?_
  refine AW.cond rfl (fun e_ => ?_) (fun e_ => ?_)
  · obtain ⟨t, r, rfl⟩ := ends_cons hr hkl (by simpa using e_)
    obtain ⟨hlt, hr', ht⟩ := dconsq hr
    have hd : (fm rw_ sl_).drop (j * 3) = slF tm t.a :: slF tm t.b :: slF tm t.c :: fm rw_ r := fm_drop rw_len hr
    have k0 : (0:Int) ≤ j := by omega
    have k1 : (j:Int) < sl_.length := by omega
    have hiw := incq hlt (by omega)
    obtain ⟨ra, rb, rc⟩ := hrows t (List.mem_of_getElem? ht)
    obtain ⟨ta, tb, tc⟩ := hlens t (List.mem_of_getElem? ht)
    have hbl' : B.length = N := hbl
    obtain ⟨b, hb, hbw', hbd⟩ := at_nat (V := B) (n := j) (by omega) hbw
    have k2 : (j:Int) < B.length := by omega
    clear hbl'
    have iA : atF Rw.a B (j + 1) r (addF b A1 t.a) = atF Rw.a B 0 sl_ (List.replicate n 0) := by rw [← iA]; simp only [atF, hb, Option.getD_some]
    have iB : atF Rw.b B (j + 1) r (addF b B1 t.b) = atF Rw.b B 0 sl_ (List.replicate n 0) := by rw [← iB]; simp only [atF, hb, Option.getD_some]
    have iC : atF Rw.c B (j + 1) r (addF b C1 t.c) = atF Rw.c B 0 sl_ (List.replicate n 0) := by rw [← iC]; simp only [atF, hb, Option.getD_some]
    have n0 : 0 < n := by omega
    have ca := qap_add_c la n0 wa ra ta hbw'
    have cb := qap_add_c lb n0 wb rb tb hbw'
    have cc := qap_add_c lc n0 wc rc tc hbw'
    have la2 := (addF_len b t.a A1).trans la
    have lb2 := (addF_len b t.b B1).trans lb
    have lc2 := (addF_len b t.c C1).trans lc
    have wa2 := addF_w b t.a A1 wa
    have wb2 := addF_w b t.b B1 wb
    have wc2 := addF_w b t.c C1 wc
    generalize addF b A1 t.a = A2 at *
    generalize addF b B1 t.b = B2 at *
    generalize addF b C1 t.c = C2 at *
    have na : (blk A2).cs ≠ [] := fm_ne (by omega)
    have nb : (blk B2).cs ≠ [] := fm_ne (by omega)
    have nc : (blk C2).cs ≠ [] := fm_ne (by omega)
    replace la := hid la
    replace lb := hid lb
    replace lc := hid lc
    replace la2 := hid la2
    replace lb2 := hid lb2
    replace lc2 := hid lc2
    clear hr ht e_ hb
    refine AW.skip ?_
    repeat refine AW.seq ?_
    refine AW.block ?_
    repeat refine AW.seq ?_
    refine AW.reg ?_
    iterate 6 refine AOL.s1 (h := ?_)
    refine AOL.nil ?_
    refine AW.kq [1, 4, 5, 6, 9, 10, 11, 12, 40, 41, 42] (h := ?_)
    repeat refine AW.seq ?_
    refine AW.drw 7 [] (by kernel_rfl) (h := ?_)
    iterate 7 refine ADL.dm 1 (h := ?_)
    refine ADL.done hmix rfl rfl (hT := ?_)
    refine AOL.call1 1512 (ca) rfl (by kernel_rfl) rfl (by intro l_ hl_; simp [labs, labss] at hl_ <;> exact hl_) (by first | rfl | exact frees_fm (fun _ => rfl) _) (by first | rfl | exact frees_fm (fun _ => rfl) _) (by intro l_ hl_; simp [labs, labss] at hl_ <;> exact hl_) (by assumption) rfl (by simp only [St.drop, mapT, mapH, kill, kills, del, St.put, ins, ren, rens, reduceIte, Nat.reduceLT, Nat.reduceEqDiff, Bool.false_eq_true]; exact rfl) ?_
    refine AOL.nil ?_
    refine AW.kq [1, 4, 5, 6, 9, 10, 11, 12, 40, 41, 42] (h := ?_)
    repeat refine AW.seq ?_
    refine AW.drw 7 [] (by kernel_rfl) (h := ?_)
    iterate 7 refine ADL.dm 1 (h := ?_)
    refine ADL.done hmix rfl rfl (hT := ?_)
    refine AOL.call1 1560 (cb) rfl (by kernel_rfl) rfl (by intro l_ hl_; simp [labs, labss] at hl_ <;> exact hl_) (by first | rfl | exact frees_fm (fun _ => rfl) _) (by first | rfl | exact frees_fm (fun _ => rfl) _) (by intro l_ hl_; simp [labs, labss] at hl_ <;> exact hl_) (by assumption) rfl (by simp only [St.drop, mapT, mapH, kill, kills, del, St.put, ins, ren, rens, reduceIte, Nat.reduceLT, Nat.reduceEqDiff, Bool.false_eq_true]; exact rfl) ?_
    refine AOL.nil ?_
    refine AW.kq [1, 4, 5, 6, 9, 10, 11, 12, 40, 41, 42] (h := ?_)
    repeat refine AW.seq ?_
    refine AW.drw 7 [] (by kernel_rfl) (h := ?_)
    iterate 7 refine ADL.dm 1 (h := ?_)
    refine ADL.done hmix rfl rfl (hT := ?_)
    refine AOL.call1 1608 (cc) rfl (by kernel_rfl) rfl (by intro l_ hl_; simp [labs, labss] at hl_ <;> exact hl_) (by first | rfl | exact frees_fm (fun _ => rfl) _) (by first | rfl | exact frees_fm (fun _ => rfl) _) (by intro l_ hl_; simp [labs, labss] at hl_ <;> exact hl_) (by assumption) rfl (by simp only [St.drop, mapT, mapH, kill, kills, del, St.put, ins, ren, rens, reduceIte, Nat.reduceLT, Nat.reduceEqDiff, Bool.false_eq_true]; exact rfl) ?_
    refine AOL.nil ?_
    repeat refine AW.seq ?_
    refine AW.let 1192 (h := ?_)
    refine AW.reg ?_
    iterate 2 refine AOL.s1 (h := ?_)
    refine AOL.nil ?_
    exact ⟨r.length, by simp, j + 1, r, A2, B2, C2, rfl, hr', hlt, rfl, la2, lb2, lc2, wa2, wb2, wc2, iA, iB, iC⟩
  · obtain rfl := ends_nil hr (by simpa using e_)
    have gA : A1 = atF Rw.a B 0 sl_ (List.replicate n 0) := iA
    have gB : B1 = atF Rw.b B 0 sl_ (List.replicate n 0) := iB
    have gC : C1 = atF Rw.c B 0 sl_ (List.replicate n 0) := iC
    rw [← gA, ← gB, ← gC]
    clear gA gB gC iA iB iC hr
    repeat refine AW.seq ?_
    refine AW.exit ?_
    repeat (first | refine Kseq.ex ?_ | refine Kloop.ex ?_ | refine Kblock.miss (by decide) ?_)
    refine Kblock.hit ?_
    refine AW.kq [1, 4, 5, 6, 9] (h := ?_)
    repeat refine AW.seq ?_
    refine AW.reg ?_
    iterate 6 refine AOL.s1 (h := ?_)
    refine AOL.callD rfl (modular_Pow_c hR hx hN) (by kernel_rfl) rfl rfl (h := ?_)
    refine AOL.callD rfl (modular_Sub_c hR p1 (by decide)) (by kernel_rfl) rfl rfl (h := ?_)
    iterate 5 refine AOL.s1 (h := ?_)
    refine AOL.nil ?_
    refine AW.kq [4, 5, 6, 7, 8] (h := ?_)
    repeat refine AW.seq ?_
    skip
    refine AW.ret ?_
    exact ⟨_, [(1512, _), (1560, _), (1608, _)], rfl, (fun p_ hp_ => hp_), Tells.three 1512 1560 1608 (by decide) (by decide) (by decide) (by decide) (by decide) (by decide) (frees_fm (fun _ => rfl) _) (frees_fm (fun _ => rfl) _) (frees_fm (fun _ => rfl) _)⟩
end Go.Proofs.Ytdbpjegocmdplaa.E.M
end
section
/- The values of «as» many coefficients «as» a domain has: contracts over E. -/
set_option linter.unusedVariables false
set_option linter.unusedSimpArgs false
set_option maxRecDepth 10000
open Go Go.Proofs.Ytdbpjegocmdplaa.E Go.Proofs
namespace Go.Proofs.Ytdbpjegocmdplaa.E.M
def evL : List Int → List Int
  | [] => []
  | [a] => [a]
  | a :: _ :: l => a :: evL l
def odL : List Int → List Int
  | [] => []
  | [_] => []
  | _ :: b :: l => b :: odL l
theorem evL_snoc : ∀ (L : List Int) (a : Int), evL (L ++ [a]) = if L.length % 2 = 0 then evL L ++ [a] else evL L
  | [], a => rfl
  | [b], a => rfl
  | b :: c :: l, a => by
    have ih := evL_snoc l a
    have : (b :: c :: l).length % 2 = l.length % 2 := by simp only [List.length_cons]; omega
    rw [this]
    simp only [List.cons_append, evL, ih]
    split <;> rfl
theorem odL_snoc : ∀ (L : List Int) (a : Int), odL (L ++ [a]) = if L.length % 2 = 0 then odL L else odL L ++ [a]
  | [], a => rfl
  | [b], a => rfl
  | b :: c :: l, a => by
    have ih := odL_snoc l a
    have : (b :: c :: l).length % 2 = l.length % 2 := by simp only [List.length_cons]; omega
    rw [this]
    simp only [List.cons_append, odL, ih]
    split <;> rfl
theorem ev_len : ∀ (L : List Int), (evL L).length = (L.length + 1) / 2 ∧ (odL L).length = L.length / 2
  | [] => ⟨rfl, rfl⟩
  | [b] => by simp [evL, odL]
  | b :: c :: l => by
    have ⟨h1, h2⟩ := ev_len l
    simp only [evL, odL, List.length_cons, h1, h2]; omega
theorem ev_w : ∀ (L : List Int), wV L → wV (evL L) ∧ wV (odL L)
  | [], h => ⟨h, h⟩
  | [b], h => ⟨h, by intro v hv; cases hv⟩
  | b :: c :: l, h => by
    have ⟨h1, h2⟩ := ev_w l fun v hv => h v (by simp [hv])
    constructor
    · intro v hv; rcases List.mem_cons.1 hv with rfl | hv
      · exact h v (by simp)
      · exact h1 v hv
    · intro v hv; rcases List.mem_cons.1 hv with rfl | hv
      · exact h v (by simp)
      · exact h2 v hv
def upF (w : Int) (e o : List Int) (j : Nat) : Int := (e[j]?.getD 0 + pwq w j * (o[j]?.getD 0) % 288230376287764481) % 288230376287764481
def dnF (w : Int) (e o : List Int) (j : Nat) : Int := (e[j]?.getD 0 - pwq w j * (o[j]?.getD 0) % 288230376287764481) % 288230376287764481
def turnF : Nat → Int → List Int → List Int
  | 0, _, p => [(p[0]?.getD 0) % 288230376287764481]
  | k + 1, w, p => (List.range (2 ^ k)).map (upF w (turnF k (w * w % 288230376287764481) (evL p)) (turnF k (w * w % 288230376287764481) (odL p))) ++ (List.range (2 ^ k)).map (dnF w (turnF k (w * w % 288230376287764481) (evL p)) (turnF k (w * w % 288230376287764481) (odL p)))
theorem turnF_len : ∀ k w p, (turnF k w p).length = 2 ^ k
  | 0, w, p => rfl
  | k + 1, w, p => by simp [turnF, Nat.pow_succ]; omega
theorem turnF_w : ∀ k w p, wV (turnF k w p)
  | 0, w, p => by intro v hv; simp [turnF] at hv; rw [hv]; exact w64_r _
  | k + 1, w, p => by
    intro v hv
    simp only [turnF] at hv
    rcases List.mem_append.1 hv with hv | hv <;> obtain ⟨j, _, rfl⟩ := List.mem_map.1 hv <;> exact w64_r _
theorem turn_fz {k : Nat} {w : Int} {p : List Int} (hp : p.length = 2 ^ k) (h : Fn Try.prog 83 [ul p, u w] [] (Tells (.ref 1000 0 p.length 1) [(1000, blk (turnF k w p))])) : Fn Try.prog 83 [ul p, u w] [] (fun r _ => r = ul (turnF k w p)) := by
  refine (Fn.frozen h (frees_fm (fun _ => rfl) _)).mono ?_
  rintro r _ rfl
  show AV.sl p.length (sub 0 (p.length * 1) (fm u1 (turnF k w p))) = AV.sl (turnF k w p).length (fm u1 (turnF k w p))
  rw [sub_all (Nat.le_of_eq (by rw [fml, turnF_len, Nat.mul_one, hp])), hp, turnF_len]
theorem upL_app_set (f g : Nat → Int) {H j : Nat} (h : j < H) : ((upL f H j ++ upL g H j).set j (f j)).set (H + j) (g j) = upL f H (j + 1) ++ upL g H (j + 1) := by
  have l1 := upL_len f (Nat.le_of_lt h)
  rw [List.set_append_left _ _ (by rw [l1]; exact h), upL_set f h]
  have l2 := upL_len f (j := j + 1) (n := H) h
  rw [List.set_append_right _ _ (by rw [l2]; omega), l2, Nat.add_sub_cancel_left, upL_set g h]
set_option maxHeartbeats 4000000 in
theorem poly_turn_0 {w : Int} {p : List Int} (hp : p.length = 1) (hpw : wV p) (hw : w64 w) : Fn Try.prog 83 [ul p, u w] [] (Tells (.ref 1000 0 p.length 1) [(1000, blk (turnF 0 w p))]) := by
  refine Fn.enter Try.func83 Try.ntmps83 rfl (h := ?_)
  have tf := tfr
  have ot_ : (false || true) = true := rfl
  obtain ⟨a, rfl⟩ : ∃ a, p = [a] := by
    cases p with
    | nil => cases hp
    | cons a l => cases l with
      | nil => exact ⟨a, rfl⟩
      | cons b l => simp at hp
  have ha := hpw a (by simp)
  have hdr : fm u1 [a] = [u a] := rfl
  have r0 : ¬ (288230376287764481 : Int) = 0 := by decide
  have tm := tmod_nn (m := 288230376287764481) ha.1
  have z0 : (0:Int) ≤ 0 := by decide
  have z1 : (0:Int) < ((1 : Nat) : Int) := by decide
  have z2 : (((1 : Nat) : Int) == 1) = true := by decide
  have z3 : (1:Nat) ≤ 16777216 := by decide
  repeat refine AW.seq ?_
  refine AW.reg ?_
  iterate 1 refine AOL.s1 (h := ?_)
  refine AOL.nil ?_
  refine AW.kq [0, 1] (h := ?_)
  repeat refine AW.seq ?_
  refine AW.reg ?_
  iterate 3 refine AOL.s1 (h := ?_)
  refine AOL.nil ?_
  refine AW.kq [0, 1, 18] (h := ?_)
  repeat refine AW.seq ?_
  refine AW.cond rfl (fun c_ => ?_) (fun c_ => ?_)
  · skip
    repeat refine AW.seq ?_
    refine AW.reg ?_
    iterate 6 refine AOL.s1 (h := ?_)
    refine AOL.nil ?_
    refine AW.kq [4] (h := ?_)
    repeat refine AW.seq ?_
    refine AW.ret ?_
    refine ⟨_, [(1368, _)], rfl, (fun p_ hp_ => by simp only [List.mem_singleton] at hp_; subst hp_; first | exact List.mem_cons_self | exact List.mem_cons_of_mem _ List.mem_cons_self | exact List.mem_cons_of_mem _ (List.mem_cons_of_mem _ List.mem_cons_self)), ?_⟩
    refine Tells.one 1368 (by decide) ?_
    first | rfl | exact frees_fm (fun _ => rfl) _
    skip
  cases c_
set_option maxHeartbeats 16000000 in
theorem poly_turn_s {k : Nat} (ih : ∀ {w : Int} {p : List Int}, p.length = 2 ^ k → wV p → w64 w → Fn Try.prog 83 [ul p, u w] [] (Tells (.ref 1000 0 p.length 1) [(1000, blk (turnF k w p))])) (hk : k + 1 ≤ 12) {w : Int} {p : List Int} (hp : p.length = 2 ^ (k + 1)) (hpw : wV p) (hw : w64 w) : Fn Try.prog 83 [ul p, u w] [] (Tells (.ref 1000 0 p.length 1) [(1000, blk (turnF (k + 1) w p))]) := by
  refine Fn.enter Try.func83 Try.ntmps83 rfl (h := ?_)
  have tf := tfr
  have ot_ : (false || true) = true := rfl
  obtain ⟨t1, t2⟩ := two_le (k := k + 1) hk
  obtain ⟨t3, t4⟩ := two_le (k := k) (by omega)
  have hH : 2 ^ (k + 1) = 2 ^ k + 2 ^ k := by rw [Nat.pow_succ]; omega
  obtain ⟨le, lo⟩ := ev_len p
  obtain ⟨we, wo⟩ := ev_w p hpw
  have he : (evL p).length = 2 ^ k := by omega
  have ho : (odL p).length = 2 ^ k := by omega
  have ce := turn_fz (w := w * w % 288230376287764481) he (ih he we (w64_r _))
  have co := turn_fz (w := w * w % 288230376287764481) ho (ih ho wo (w64_r _))
  have hmk := mk64 (n := p.length) (by omega)
  have n1 : ((p.length : Int) == 1) = false := by
    have : ¬ (p.length : Int) = 1 := by omega
    simpa using this
  have t20 : ¬ (2:Int) = 0 := by decide
  have hdv : IntKind.i64.wrap (Int.tdiv (p.length : Int) 2) = ((2 ^ k : Nat) : Int) := by
    rw [Int.tdiv_eq_ediv_of_nonneg (by omega), wrapI_o (by omega) (by omega)]; omega
  have hf : turnF (k + 1) w p = (List.range (2 ^ k)).map (upF w (turnF k (w * w % 288230376287764481) (evL p)) (turnF k (w * w % 288230376287764481) (odL p))) ++ (List.range (2 ^ k)).map (dnF w (turnF k (w * w % 288230376287764481) (evL p)) (turnF k (w * w % 288230376287764481) (odL p))) := rfl
  have l1 := turnF_len k (w * w % 288230376287764481) (evL p)
  have l2 := turnF_len k (w * w % 288230376287764481) (odL p)
  have w1 := turnF_w k (w * w % 288230376287764481) (evL p)
  have w2 := turnF_w k (w * w % 288230376287764481) (odL p)
  rw [hf]
  have hpl : p.length ≤ 4096 := by omega
  replace hp := hid (hp.trans hH)
  replace he := hid he
  replace ho := hid ho
  clear hf ih le lo we wo t1 t2 hH
  generalize turnF k (w * w % 288230376287764481) (evL p) = e at *
  generalize turnF k (w * w % 288230376287764481) (odL p) = o at *
  generalize 2 ^ k = H at *
  replace l1 := hid l1
  replace l2 := hid l2
  repeat refine AW.seq ?_
  refine AW.reg ?_
  iterate 1 refine AOL.s1 (h := ?_)
  refine AOL.nil ?_
  refine AW.kq [0, 1] (h := ?_)
  repeat refine AW.seq ?_
  refine AW.reg ?_
  iterate 3 refine AOL.s1 (h := ?_)
  refine AOL.nil ?_
  refine AW.kq [0, 1, 18] (h := ?_)
  repeat refine AW.seq ?_
  refine AW.cond rfl (fun c_ => ?_) (fun c_ => ?_)
  · cases c_
  refine AW.skip ?_
  repeat refine AW.seq ?_
  refine AW.reg ?_
  iterate 2 refine AOL.s1 (h := ?_)
  refine AOL.nil ?_
  refine AW.kq [0, 1, 5, 6] (h := ?_)
  repeat refine AW.seq ?_
  refine AW.reg ?_
  iterate 3 refine AOL.s1 (h := ?_)
  refine AOL.nil ?_
  refine AW.kq [0, 1, 5, 6, 24, 25, 26] (h := ?_)
  repeat refine AW.seq ?_
  refine AW.block ?_
  repeat refine AW.seq ?_
  refine AW.born 5 1592 25 1 (.inl rfl) (h := ?_)
  refine AW.born 6 1656 25 1 (.inl rfl) (h := ?_)
  clear n1
  refine AW.loopK [0, 1, 5, 6, 24, 25, 26] (fun n' s => ∃ (j : Nat) (E0 O0 : List Int), s = ⟨94, [(0, ul p), (1, u w), (5, .ref 1592 0 E0.length 1), (6, .ref 1656 0 O0.length 1), (24, ul p), (25, i p.length), (26, i j)], [(1592, blk E0), (1656, blk O0)]⟩ ∧ j ≤ p.length ∧ n' = p.length - j ∧ evL (p.take j) = E0 ∧ odL (p.take j) = O0) (p.length) ?_ ?_
  · exact ⟨0, [], [], rfl, Nat.zero_le _, rfl, rfl, rfl⟩
  rintro n' s ⟨j, E0, O0, rfl, jp, rfl, hE, hO⟩
  repeat refine AW.seq ?_
  refine AW.reg ?_
  iterate 1 refine AOL.s1 (h := ?_)
  refine AOL.nil ?_
  refine AW.kq [0, 1, 5, 6, 24, 25, 26, 27] (h := ?_)
  repeat refine AW.seq ?_
  refine AW.cond rfl (fun c_ => ?_) (fun c_ => ?_)
  · have hj : j < p.length := by have : (j:Int) < p.length := by simpa using c_
                                 omega
    obtain ⟨v, hv, hvw, hvd⟩ := at_nat (V := p) (n := j) (by omega) hpw
    have j0 : (0:Int) ≤ j := by omega
    have j1 : (j:Int) < p.length := by omega
    have hiw := incq hj (by omega)
    have htake : p.take (j + 1) = p.take j ++ [v] := by rw [List.take_add_one, hv]; rfl
    have hlt : (p.take j).length = j := by rw [List.length_take]; omega
    have eE := evL_snoc (p.take j) v
    have eO := odL_snoc (p.take j) v
    rw [← htake, hlt, hE] at eE
    rw [← htake, hlt, hO] at eO
    have bE : E0.length ≤ 4096 := by rw [← hE, (ev_len _).1, hlt]; omega
    have bO : O0.length ≤ 4096 := by rw [← hO, (ev_len _).2, hlt]; omega
    have tm : Int.tmod (j:Int) 2 = ((j % 2 : Nat) : Int) := by rw [tmod_nn (by omega)]; omega
    clear hv htake hlt hE hO c_
    refine AW.skip ?_
    repeat refine AW.seq ?_
    refine AW.block ?_
    repeat refine AW.seq ?_
    refine AW.reg ?_
    iterate 5 refine AOL.s1 (h := ?_)
    refine AOL.nil ?_
    refine AW.kq [0, 1, 5, 6, 7, 8, 24, 25, 26] (h := ?_)
    repeat refine AW.seq ?_
    refine AW.reg ?_
    iterate 3 refine AOL.s1 (h := ?_)
    refine AOL.nil ?_
    refine AW.kq [0, 1, 5, 6, 8, 24, 25, 26, 33] (h := ?_)
    repeat refine AW.seq ?_
    refine AW.cond rfl (fun d_ => ?_) (fun d_ => ?_)
    · have hev : j % 2 = 0 := by have : ((j % 2 : Nat) : Int) = 0 := by simpa using d_
                                 omega
      rw [if_pos hev] at eE eO
      have f1 := fml E0
      have f2 : E0.length + 1 ≤ 140737488355328 := by omega
      have f3 : (E0.length + 1) * 8 ≤ 140737488355328 := by omega
      have f4 : E0.length + 1 ≤ 4611686018427387904 := by omega
      have f5 : E0.length ≤ 140737488355327 := by omega
      have f6 : E0.length ≤ 4611686018427387903 := by omega
      have f7 : fm u1 E0 ++ [u v] = fm u1 (E0 ++ [v]) := fm_snoc E0 v
      replace eE := hid eE
      replace eO := hid eO
      clear bE bO tm hev d_
      repeat refine AW.seq ?_
      refine AW.reg ?_
      iterate 5 refine AOL.s1 (h := ?_)
      refine AOL.nil ?_
      repeat refine AW.seq ?_
      refine AW.let 1576 (h := ?_)
      refine AW.let 1640 (h := ?_)
      refine AW.reg ?_
      iterate 2 refine AOL.s1 (h := ?_)
      refine AOL.nil ?_
      exact ⟨p.length - (j + 1), by omega, j + 1, E0 ++ [v], O0, by rw [List.length_append]; rfl, hj, rfl, eE, eO⟩
    · have hev : ¬ j % 2 = 0 := by
        intro h; have : ((j % 2 : Nat) : Int) = 0 := by omega
        rw [this] at d_; cases d_
      rw [if_neg hev] at eE eO
      have f1 := fml O0
      have f2 : O0.length + 1 ≤ 140737488355328 := by omega
      have f3 : (O0.length + 1) * 8 ≤ 140737488355328 := by omega
      have f4 : O0.length + 1 ≤ 4611686018427387904 := by omega
      have f5 : O0.length ≤ 140737488355327 := by omega
      have f6 : O0.length ≤ 4611686018427387903 := by omega
      have f7 : fm u1 O0 ++ [u v] = fm u1 (O0 ++ [v]) := fm_snoc O0 v
      replace eE := hid eE
      replace eO := hid eO
      clear bE bO tm hev d_
      repeat refine AW.seq ?_
      refine AW.reg ?_
      iterate 5 refine AOL.s1 (h := ?_)
      refine AOL.nil ?_
      repeat refine AW.seq ?_
      refine AW.let 1576 (h := ?_)
      refine AW.let 1640 (h := ?_)
      refine AW.reg ?_
      iterate 2 refine AOL.s1 (h := ?_)
      refine AOL.nil ?_
      exact ⟨p.length - (j + 1), by omega, j + 1, E0, O0 ++ [v], by rw [List.length_append]; rfl, hj, rfl, eE, eO⟩
  · have hj : j = p.length := by have : ¬ (j:Int) < p.length := by simpa using c_
                                 omega
    subst hj
    rw [List.take_length] at hE hO
    subst hE hO
    have hse : sub 0 ((evL p).length * 1) (fm u1 (evL p)) = fm u1 (evL p) := sub_all (Nat.le_of_eq (by rw [fml, Nat.mul_one]))
    have hso : sub 0 ((odL p).length * 1) (fm u1 (odL p)) = fm u1 (odL p) := sub_all (Nat.le_of_eq (by rw [fml, Nat.mul_one]))
    repeat refine AW.seq ?_
    refine AW.exit ?_
    repeat (first | refine Kseq.ex ?_ | refine Kloop.ex ?_ | refine Kblock.miss (by decide) ?_)
    refine Kblock.hit ?_
    refine AW.kq [0, 1, 5, 6] (h := ?_)
    refine AW.fz 1592 rfl (fun h => by cases h) (h := ?_)
    refine AW.fz 1656 rfl (fun h => by cases h) (h := ?_)
    rw [hse, hso]
    clear hse hso
    repeat refine AW.seq ?_
    refine AW.reg ?_
    iterate 3 refine AOL.s1 (h := ?_)
    refine AOL.callD rfl (poly_mul_c hw hw) (by kernel_rfl) rfl rfl (h := ?_)
    refine AOL.callD rfl (ce) (by kernel_rfl) rfl rfl (h := ?_)
    iterate 3 refine AOL.s1 (h := ?_)
    refine AOL.callD rfl (poly_mul_c hw hw) (by kernel_rfl) rfl rfl (h := ?_)
    refine AOL.callD rfl (co) (by kernel_rfl) rfl rfl (h := ?_)
    iterate 2 refine AOL.s1 (h := ?_)
    refine AOL.nil ?_
    refine AW.kq [0, 1, 9, 10] (h := ?_)
    repeat refine AW.seq ?_
    refine AW.reg ?_
    iterate 4 refine AOL.s1 (h := ?_)
    refine AOL.nil ?_
    refine AW.kq [0, 1, 9, 10, 11] (h := ?_)
    repeat refine AW.seq ?_
    refine AW.reg ?_
    iterate 5 refine AOL.s1 (h := ?_)
    refine AOL.nil ?_
    refine AW.kq [1, 9, 10, 11, 12, 13] (h := ?_)
    repeat refine AW.seq ?_
    refine AW.reg ?_
    iterate 2 refine AOL.s1 (h := ?_)
    refine AOL.nil ?_
    refine AW.kq [1, 9, 10, 11, 12, 13, 59, 60] (h := ?_)
    repeat refine AW.seq ?_
    refine AW.block ?_
    repeat refine AW.seq ?_
    clear ce co hmk hdv
    refine AW.loopK [1, 9, 10, 11, 12, 13, 59, 60] (fun n s => ∃ (j : Nat), s = ⟨94, [(1, u w), (9, ul e), (10, ul o), (11, .ref 1880 0 p.length 1), (12, u (pwq w j)), (13, i H), (59, i H), (60, i j)], [(1880, blk (upL (upF w e o) H j ++ upL (dnF w e o) H j))]⟩ ∧ j ≤ H ∧ n = H - j) (H) ?_ ?_
    · exact ⟨0, by
    have hp' : p.length = H + H := hp
    rw [upL_zero, upL_zero, List.replicate_append_replicate, ← hp']; rfl, Nat.zero_le _, rfl⟩
    rintro n s ⟨j, rfl, jH, rfl⟩
    repeat refine AW.seq ?_
    refine AW.reg ?_
    iterate 1 refine AOL.s1 (h := ?_)
    refine AOL.nil ?_
    refine AW.kq [1, 9, 10, 11, 12, 13, 59, 60, 61] (h := ?_)
    repeat refine AW.seq ?_
    refine AW.cond rfl (fun d_ => ?_) (fun d_ => ?_)
    · have hp' : p.length = H + H := hp
      have l1' : e.length = H := l1
      have l2' : o.length = H := l2
      have hj : j < H := by have : (j:Int) < H := by simpa using d_
                            omega
      obtain ⟨a, ha, haw, had⟩ := at_nat (V := e) (n := j) (by omega) w1
      obtain ⟨b, hb, hbw, hbd⟩ := at_nat (V := o) (n := j) (by omega) w2
      have j0 : (0:Int) ≤ j := by omega
      have je : (j:Int) < e.length := by omega
      have jo : (j:Int) < o.length := by omega
      have jp : (j:Int) < p.length := by omega
      have hiw := incq hj (by omega)
      have hjw : IntKind.i64.wrap ((H:Int) + j) = ((H + j : Nat) : Int) := by rw [wrapI_o (by omega) (by omega)]; rfl
      have k0 : (0:Int) ≤ ((H + j : Nat) : Int) := by omega
      have kp : ((H + j : Nat) : Int) < p.length := by omega
      have hpw' := pw_w w j
      have vu : upF w e o j = (a + pwq w j * b % 288230376287764481) % 288230376287764481 := by simp only [upF, ha, hb, Option.getD_some]
      have vd : dnF w e o j = (a - pwq w j * b % 288230376287764481) % 288230376287764481 := by simp only [dnF, ha, hb, Option.getD_some]
      have lf := upL_len (upF w e o) (Nat.le_of_lt hj)
      have lg_ := upL_len (dnF w e o) (Nat.le_of_lt hj)
      have hM : (upL (upF w e o) H j ++ upL (dnF w e o) H j).length = p.length := by rw [List.length_append, lf, lg_]; omega
      have hset := upL_app_set (upF w e o) (dnF w e o) hj
      rw [vu, vd] at hset
      clear vu vd ha hb lf lg_ d_
      generalize upL (upF w e o) H j ++ upL (dnF w e o) H j = M at *
      have s1 := fset M j ((a + pwq w j * b % 288230376287764481) % 288230376287764481)
      have q1 := fml M
      rw [hM] at q1
      have hM1 : (M.set j ((a + pwq w j * b % 288230376287764481) % 288230376287764481)).length = p.length := by rw [List.length_set, hM]
      generalize hm1 : M.set j ((a + pwq w j * b % 288230376287764481) % 288230376287764481) = M1 at *
      have s2 := fset M1 (H + j) ((a - pwq w j * b % 288230376287764481) % 288230376287764481)
      rw [hset] at s2
      have q2 := fml M1
      rw [hM1] at q2
      have b1 : j + 1 ≤ p.length := by omega
      have b2 : H + j + 1 ≤ p.length := by omega
      clear hM hM1 hset hp' l1' l2' hm1
      refine AW.skip ?_
      repeat refine AW.seq ?_
      refine AW.block ?_
      repeat refine AW.seq ?_
      refine AW.reg ?_
      iterate 2 refine AOL.s1 (h := ?_)
      refine AOL.nil ?_
      refine AW.kq [1, 9, 10, 11, 12, 13, 14, 59, 60] (h := ?_)
      repeat refine AW.seq ?_
      refine AW.reg ?_
      iterate 5 refine AOL.s1 (h := ?_)
      refine AOL.callD rfl (poly_mul_c hpw' hbw) (by kernel_rfl) rfl rfl (h := ?_)
      iterate 1 refine AOL.s1 (h := ?_)
      refine AOL.nil ?_
      refine AW.kq [1, 9, 10, 11, 12, 13, 14, 15, 59, 60] (h := ?_)
      repeat refine AW.seq ?_
      refine AW.dw [(19, 1880, blk M1)] 20 [] (by kernel_rfl) (h := ?_)
      iterate 11 refine ADLW.d1 (h := ?_)
      refine ADLW.call rfl rfl (modular_Add_c hR haw (w64_r _)) (by kernel_rfl) rfl rfl (by simp only [List.cons_append, List.nil_append]; exact rfl) ?_
      iterate 5 refine ADLW.d1 (h := ?_)
      refine ADLW.call rfl rfl (modular_Sub_c hR haw (w64_r _)) (by kernel_rfl) rfl rfl (by simp only [List.cons_append, List.nil_append]; exact rfl) ?_
      iterate 1 refine ADLW.d1 (h := ?_)
      refine ADLW.st (h := ?_)
      refine ADLW.fin hmix rfl rfl rfl rfl (hT := ?_)
      iterate 2 refine AOL.s1 (h := ?_)
      refine AOL.nil ?_
      refine AW.kq [1, 9, 10, 11, 12, 13, 59, 60] (h := ?_)
      repeat refine AW.seq ?_
      refine AW.reg ?_
      iterate 2 refine AOL.s1 (h := ?_)
      refine AOL.callD rfl (poly_mul_c hpw' hw) (by kernel_rfl) rfl rfl (h := ?_)
      iterate 1 refine AOL.s1 (h := ?_)
      refine AOL.nil ?_
      repeat refine AW.seq ?_
      refine AW.reg ?_
      iterate 2 refine AOL.s1 (h := ?_)
      refine AOL.nil ?_
      exact ⟨H - (j + 1), by omega, j + 1, rfl, hj, rfl⟩
    · have hj : j = H := by have : ¬ (j:Int) < H := by simpa using d_
                            omega
      subst hj
      rw [upL_full, upL_full]
      repeat refine AW.seq ?_
      refine AW.exit ?_
      repeat (first | refine Kseq.ex ?_ | refine Kloop.ex ?_ | refine Kblock.miss (by decide) ?_)
      refine Kblock.hit ?_
      refine AW.kq [11] (h := ?_)
      repeat refine AW.seq ?_
      refine AW.reg ?_
      iterate 2 refine AOL.s1 (h := ?_)
      refine AOL.nil ?_
      refine AW.kq [4] (h := ?_)
      repeat refine AW.seq ?_
      refine AW.ret ?_
      refine ⟨_, [(1880, _)], rfl, (fun p_ hp_ => by simp only [List.mem_singleton] at hp_; subst hp_; first | exact List.mem_cons_self | exact List.mem_cons_of_mem _ List.mem_cons_self | exact List.mem_cons_of_mem _ (List.mem_cons_of_mem _ List.mem_cons_self)), ?_⟩
      refine Tells.one 1880 (by decide) ?_
      first | rfl | exact frees_fm (fun _ => rfl) _
      skip
end Go.Proofs.Ytdbpjegocmdplaa.E.M
end
section
/- Lists without 0s at their end, the polynomial of values, products: contracts over E. -/
set_option linter.unusedVariables false
set_option linter.unusedSimpArgs false
set_option maxRecDepth 10000
open Go Go.Proofs.Ytdbpjegocmdplaa.E Go.Proofs
namespace Go.Proofs.Ytdbpjegocmdplaa.E.M
theorem ul_def (L : List Int) : ul L = .sl L.length (fm u1 L) := rfl
def shortL (L : List Int) : List Int := (L.reverse.dropWhile (· == 0)).reverse
theorem shortL_snoc (M : List Int) (a : Int) : shortL (M ++ [a]) = if a = 0 then shortL M else M ++ [a] := by
  unfold shortL
  rw [List.reverse_append, List.reverse_singleton, List.singleton_append, List.dropWhile_cons]
  by_cases h : a = 0
  · simp [h]
  · simp [h]
theorem shortL_pre (L : List Int) : ∃ r, L = shortL L ++ r := by
  refine ⟨(L.reverse.takeWhile (· == 0)).reverse, ?_⟩
  have := congrArg List.reverse (List.takeWhile_append_dropWhile (p := (· == (0:Int))) (l := L.reverse))
  rw [List.reverse_append, List.reverse_reverse] at this
  exact this.symm
theorem shortL_le (L : List Int) : (shortL L).length ≤ L.length := by
  obtain ⟨r, h⟩ := shortL_pre L
  have := congrArg List.length h
  rw [List.length_append] at this; omega
theorem shortL_w {L : List Int} (h : wV L) : wV (shortL L) := by
  obtain ⟨r, e⟩ := shortL_pre L
  intro v hv; exact h v (by rw [e]; exact List.mem_append.2 (.inl hv))
theorem snoc_cases (L : List Int) : L = [] ∨ ∃ M a, L = M ++ [a] := by
  rcases List.eq_nil_or_concat L with h | ⟨M, a, h⟩
  · exact .inl h
  · exact .inr ⟨M, a, by rw [h, List.concat_eq_append]⟩
theorem sl_to {L : List Int} {k : Nat} (hk : k ≤ L.length) : ∀ H, aSlice Try.prog 28 H (ul L) none (some (i k)) none = some (ul (L.take k)) := by
  intro H
  have tf := tfr
  have c1 : (0:Int) ≤ (k : Int) := by omega
  have c2 : (k : Int) ≤ L.length := by omega
  have e : (fm u1 L).take k = fm u1 (L.take k) := by
    have : L = L.take k ++ L.drop k := (List.take_append_drop k L).symm
    conv => lhs; rw [this, fm_app]
    rw [List.take_append_of_le_length (by rw [fml, List.length_take]; omega), List.take_of_length_le (by rw [fml, List.length_take]; omega)]
  have hz : ((0:Int) ≤ 0) = True := by simp
  have hl : (L.take k).length = k := by rw [List.length_take]; omega
  simp only [aSlice, tf, bnd, intOf?, hz, c1, c2, and_self, true_and, if_true, Int.toNat_natCast, Int.toNat_zero, Nat.mul_one, Nat.zero_mul, List.drop_zero, Nat.sub_zero, e]
  rw [ul_def, hl]
theorem ref_to {l n k : Nat} (hk : k ≤ n) : ∀ H, aSlice Try.prog 28 H (.ref l 0 n 1) none (some (i k)) none = some (.ref l 0 k 1) := by
  intro H
  have tf := tfr
  have c1 : (0:Int) ≤ (k : Int) := by omega
  have c2 : (k : Int) ≤ n := by omega
  have hz : ((0:Int) ≤ 0) = True := by simp
  simp only [aSlice, tf, bnd, intOf?, hz, c1, c2, and_self, true_and, if_true, Int.toNat_natCast, Int.toNat_zero, Nat.mul_one, Nat.zero_mul, Nat.sub_zero, Nat.add_zero]
set_option maxHeartbeats 2000000 in
theorem poly_short_c {L : List Int} (hL : wV L) (lL : L.length < 1000000000) : Fn Try.prog 84 [ul L] [] (fun r _ => r = ul (shortL L)) := by
  refine Fn.enter Try.func84 Try.ntmps84 rfl (h := ?_)
  have tf := tfr
  repeat refine AW.seq ?_
  refine AW.reg ?_
  iterate 1 refine AOL.s1 (h := ?_)
  refine AOL.nil ?_
  refine AW.kq [0] (h := ?_)
  repeat refine AW.seq ?_
  refine AW.block ?_
  repeat refine AW.seq ?_
  refine AW.loopK [0] (fun n s => ∃ M : List Int, s = ⟨21, [(0, ul M)], []⟩ ∧ n = M.length ∧ M.length < 1000000000 ∧ wV M ∧ shortL M = shortL L) L.length ?_ ?_
  · exact ⟨L, rfl, rfl, lL, hL, rfl⟩
  rintro n s ⟨M, rfl, rfl, lM, wM, hM⟩
  rcases snoc_cases M with rfl | ⟨M, a, rfl⟩
  · have g0 : decide (((0 : Nat) : Int) > 0) = false := rfl
    have hM : shortL L = [] := hM.symm
    repeat refine AW.seq ?_
    refine AW.reg ?_
    iterate 12 refine AOL.s1 (h := ?_)
    refine AOL.nil ?_
    refine AW.kq [0, 14] (h := ?_)
    repeat refine AW.seq ?_
    refine AW.cond rfl (fun c_ => ?_) (fun c_ => ?_)
    · cases c_
    repeat refine AW.seq ?_
    refine AW.exit ?_
    repeat (first | refine Kseq.ex ?_ | refine Kloop.ex ?_ | refine Kblock.miss (by decide) ?_)
    refine Kblock.hit ?_
    refine AW.kq [0] (h := ?_)
    repeat refine AW.seq ?_
    refine AW.reg ?_
    iterate 2 refine AOL.s1 (h := ?_)
    refine AOL.nil ?_
    refine AW.kq [2] (h := ?_)
    repeat refine AW.seq ?_
    refine AW.ret ?_
    refine ⟨_, [], rfl, HOk.nil _, ?_⟩
    rw [hM]
    rfl
  · have hl : (M ++ [a]).length = M.length + 1 := by simp
    have hfm : fm u1 (M ++ [a]) = fm u1 M ++ [u a] := fm_app M [a]
    have hd : (fm u1 (M ++ [a])).drop M.length = [u a] := by rw [hfm, List.drop_append_of_le_length (by rw [fml]; omega), List.drop_of_length_le (by rw [fml]; omega), List.nil_append]
    rw [shortL_snoc] at hM
    have hs := sl_to (L := M ++ [a]) (k := M.length) (by omega)
    rw [List.take_left, ul_def, hl] at hs
    have wa : wV M := fun v hv => wM v (by simp [hv])
    rw [hl] at lM
    have g1 : decide (((M.length + 1 : Nat) : Int) > 0) = true := by rw [decide_eq_true_eq]; omega
    have hw : IntKind.i64.wrap (((M.length + 1 : Nat) : Int) - 1) = (M.length : Int) := by rw [wrapI_o (by omega) (by omega)] <;> omega
    have k0 : (0:Int) ≤ M.length := by omega
    have k1 : (M.length:Int) < ((M.length + 1 : Nat) : Int) := by omega
    rw [ul_def (M ++ [a]), hl]
    generalize hA : fm u1 (M ++ [a]) = A at *
    have hl' := hl
    clear hfm hl
    replace hA := hid hA
    replace hl' := hid hl'
    repeat refine AW.seq ?_
    refine AW.reg ?_
    iterate 12 refine AOL.s1 (h := ?_)
    refine AOL.nil ?_
    refine AW.kq [0, 14] (h := ?_)
    repeat refine AW.seq ?_
    refine AW.cond rfl (fun c_ => ?_) (fun c_ => ?_)
    · have ha : a = 0 := by simpa using c_
      rw [if_pos ha] at hM
      refine AW.skip ?_
      repeat refine AW.seq ?_
      refine AW.block ?_
      refine AW.reg ?_
      iterate 6 refine AOL.s1 (h := ?_)
      refine AOL.nil ?_
      exact ⟨M.length, by simp, M, rfl, rfl, by omega, wa, hM⟩
    have ha : ¬ a = 0 := by
      intro h; rw [h] at c_; cases c_
    rw [if_neg ha] at hM
    repeat refine AW.seq ?_
    refine AW.exit ?_
    repeat (first | refine Kseq.ex ?_ | refine Kloop.ex ?_ | refine Kblock.miss (by decide) ?_)
    refine Kblock.hit ?_
    refine AW.kq [0] (h := ?_)
    repeat refine AW.seq ?_
    refine AW.reg ?_
    iterate 2 refine AOL.s1 (h := ?_)
    refine AOL.nil ?_
    refine AW.kq [2] (h := ?_)
    repeat refine AW.seq ?_
    refine AW.ret ?_
    refine ⟨_, [], rfl, HOk.nil _, ?_⟩
    have hA' : fm u1 (M ++ [a]) = A := hA
    have hl' : (M ++ [a]).length = M.length + 1 := hl'
    simp only [one?]
    rw [← hM, ul_def, hl', hA']
set_option maxHeartbeats 2000000 in
theorem poly_short_o {L : List Int} (hL : wV L) (lL : L.length < 1000000000) : Fn Try.prog 84 [.ref 0 0 L.length 1] [(0, blk L)] (Tells (.ref 0 0 (shortL L).length 1) [(0, blk L)]) := by
  refine Fn.enter Try.func84 Try.ntmps84 rfl (h := ?_)
  have tf := tfr
  repeat refine AW.seq ?_
  refine AW.reg ?_
  iterate 1 refine AOL.s1 (h := ?_)
  refine AOL.nil ?_
  refine AW.kq [0] (h := ?_)
  repeat refine AW.seq ?_
  refine AW.block ?_
  repeat refine AW.seq ?_
  refine AW.loopK [0] (fun n s => ∃ M r : List Int, s = ⟨21, [(0, .ref 0 0 M.length 1)], [(0, blk L)]⟩ ∧ n = M.length ∧ L = M ++ r ∧ shortL M = shortL L) L.length ?_ ?_
  · exact ⟨L, [], rfl, rfl, by simp, rfl⟩
  rintro n s ⟨M, r, rfl, rfl, hr, hM⟩
  have lM : M.length ≤ L.length := by rw [hr, List.length_append]; omega
  rcases snoc_cases M with rfl | ⟨M, a, rfl⟩
  · have g0 : decide (((0 : Nat) : Int) > 0) = false := rfl
    have hM : shortL L = [] := hM.symm
    rw [hM]
    clear hr
    repeat refine AW.seq ?_
    refine AW.reg ?_
    iterate 12 refine AOL.s1 (h := ?_)
    refine AOL.nil ?_
    refine AW.kq [0, 14] (h := ?_)
    repeat refine AW.seq ?_
    refine AW.cond rfl (fun c_ => ?_) (fun c_ => ?_)
    · cases c_
    repeat refine AW.seq ?_
    refine AW.exit ?_
    repeat (first | refine Kseq.ex ?_ | refine Kloop.ex ?_ | refine Kblock.miss (by decide) ?_)
    refine Kblock.hit ?_
    refine AW.kq [0] (h := ?_)
    repeat refine AW.seq ?_
    refine AW.reg ?_
    iterate 2 refine AOL.s1 (h := ?_)
    refine AOL.nil ?_
    refine AW.kq [2] (h := ?_)
    repeat refine AW.seq ?_
    refine AW.ret ?_
    exact ⟨_, [(0, _)], rfl, (fun p_ hp_ => hp_), Tells.old⟩
  · have hl : (M ++ [a]).length = M.length + 1 := by simp
    rw [hl] at lM
    have hd : (fm u1 L).drop M.length = u a :: fm u1 r := by
      rw [hr, List.append_assoc, fm_app, List.drop_append_of_le_length (by rw [fml]; omega), List.drop_of_length_le (by rw [fml]; omega), List.nil_append]; rfl
    rw [shortL_snoc] at hM
    have hs := ref_to (l := 0) (n := M.length + 1) (k := M.length) (by omega)
    have g1 : decide (((M.length + 1 : Nat) : Int) > 0) = true := by rw [decide_eq_true_eq]; omega
    have hw : IntKind.i64.wrap (((M.length + 1 : Nat) : Int) - 1) = (M.length : Int) := by rw [wrapI_o (by omega) (by omega)] <;> omega
    have k0 : (0:Int) ≤ M.length := by omega
    have k1 : (M.length:Int) < ((M.length + 1 : Nat) : Int) := by omega
    have hr2 : Hid (L = M ++ (a :: r)) := by show L = M ++ (a :: r); rw [hr]; simp
    rw [hl]
    clear hl hr
    repeat refine AW.seq ?_
    refine AW.reg ?_
    iterate 12 refine AOL.s1 (h := ?_)
    refine AOL.nil ?_
    refine AW.kq [0, 14] (h := ?_)
    repeat refine AW.seq ?_
    refine AW.cond rfl (fun c_ => ?_) (fun c_ => ?_)
    · have ha : a = 0 := by simpa using c_
      rw [if_pos ha] at hM
      refine AW.skip ?_
      repeat refine AW.seq ?_
      refine AW.block ?_
      refine AW.reg ?_
      iterate 6 refine AOL.s1 (h := ?_)
      refine AOL.nil ?_
      exact ⟨M.length, by simp, M, a :: r, rfl, rfl, hr2, hM⟩
    have ha : ¬ a = 0 := by
      intro h; rw [h] at c_; cases c_
    rw [if_neg ha] at hM
    have hlen : (shortL L).length = M.length + 1 := by rw [← hM]; simp
    rw [hlen]
    clear hlen
    repeat refine AW.seq ?_
    refine AW.exit ?_
    repeat (first | refine Kseq.ex ?_ | refine Kloop.ex ?_ | refine Kblock.miss (by decide) ?_)
    refine Kblock.hit ?_
    refine AW.kq [0] (h := ?_)
    repeat refine AW.seq ?_
    refine AW.reg ?_
    iterate 2 refine AOL.s1 (h := ?_)
    refine AOL.nil ?_
    refine AW.kq [2] (h := ?_)
    repeat refine AW.seq ?_
    refine AW.ret ?_
    exact ⟨_, [(0, _)], rfl, (fun p_ hp_ => hp_), Tells.old⟩

end Go.Proofs.Ytdbpjegocmdplaa.E.M
end
section
/- The polynomial of values, products, quotients: contracts over E. -/
set_option linter.unusedVariables false
set_option linter.unusedSimpArgs false
set_option maxRecDepth 10000
open Go Go.Proofs.Ytdbpjegocmdplaa.E Go.Proofs
namespace Go.Proofs.Ytdbpjegocmdplaa.E.M
theorem poly_turn_o : ∀ {k : Nat}, k ≤ 12 → ∀ {w : Int} {p : List Int}, p.length = 2 ^ k → wV p → w64 w → Fn Try.prog 83 [ul p, u w] [] (Tells (.ref 1000 0 p.length 1) [(1000, blk (turnF k w p))])
  | 0, _, w, p, hp, hpw, hw => poly_turn_0 hp hpw hw
  | k + 1, hk, w, p, hp, hpw, hw => poly_turn_s (fun hp hpw hw => poly_turn_o (k := k) (by omega) hp hpw hw) hk hp hpw hw
/-- a row that is gone through in place -/
def mpL (g : Int → Int) (T : List Int) (j : Nat) : List Int := (T.take j).map g ++ T.drop j
theorem mpL_zero (g : Int → Int) (T : List Int) : mpL g T 0 = T := by simp [mpL]
theorem mpL_full (g : Int → Int) (T : List Int) : mpL g T T.length = T.map g := by simp [mpL]
theorem mpL_len (g : Int → Int) (T : List Int) (j : Nat) : (mpL g T j).length = T.length := by simp [mpL]; omega
theorem mpL_get (g : Int → Int) {T : List Int} {j : Nat} {v : Int} (h : T[j]? = some v) : (mpL g T j)[j]? = some v := by
  have hj := (List.getElem?_eq_some_iff.1 h).1
  unfold mpL
  rw [List.getElem?_append_right (by simp; omega)]
  simp [Nat.min_eq_left (Nat.le_of_lt hj), h]
theorem mpL_set (g : Int → Int) {T : List Int} {j : Nat} {v : Int} (h : T[j]? = some v) : (mpL g T j).set j (g v) = mpL g T (j + 1) := by
  have hj := (List.getElem?_eq_some_iff.1 h).1
  unfold mpL
  rw [List.set_append_right _ _ (by simp; omega)]
  simp only [List.length_map, List.length_take, Nat.min_eq_left (Nat.le_of_lt hj), Nat.sub_self]
  rw [List.drop_eq_getElem_cons hj, List.set_cons_zero, List.take_add_one, h]
  simp
theorem mpL_w (g : Int → Int) {T : List Int} (h : wV T) (hg : ∀ v, w64 (g v)) (j : Nat) : wV (mpL g T j) := by
  intro v hv
  unfold mpL at hv
  rcases List.mem_append.1 hv with hv | hv
  · obtain ⟨a, _, rfl⟩ := List.mem_map.1 hv; exact hg a
  · exact h v (List.mem_of_mem_drop hv)
def ninv (k : Nat) : Int := ipow 288230376287764481 (2 ^ k : Nat) 288230376287764479
def winv (k : Nat) : Int := ipow 288230376287764481 (rootF k) 288230376287764479
def mulR (n v : Int) : Int := v * n % 288230376287764481
def invF (k : Nat) (V : List Int) : List Int := (turnF k (winv k) V).map (mulR (ninv k))
theorem invF_len (k : Nat) (V : List Int) : (invF k V).length = 2 ^ k := by simp [invF, turnF_len]
theorem invF_w (k : Nat) (V : List Int) : wV (invF k V) := by
  intro v hv; obtain ⟨a, _, rfl⟩ := List.mem_map.1 hv; exact w64_r _
set_option maxHeartbeats 8000000 in
theorem poly_Inverse_o {k : Nat} {V : List Int} (hk : k ≤ 12) (hV : V.length = 2 ^ k) (wv : wV V) : Fn Try.prog 60 [ul V, i k] [] (Tells (.tup [.ref 1000 0 V.length 1, nil_]) [(1000, blk (invF k V))]) := by
  refine Fn.enter Try.func60 Try.ntmps60 rfl (h := ?_)
  have tf := tfr
  have ot_ : (false || true) = true := rfl
  have cr := poly_Root_c hk
  have hr := rootF_w k hk
  have hwi : w64 (winv k) := ipow_w hr.1 (by decide)
  have ct := poly_turn_o hk hV wv hwi
  have lT := turnF_len k (winv k) V
  have wT := turnF_w k (winv k) V
  obtain ⟨t1, t2⟩ := two_le hk
  have hN : w64 ((2 ^ k : Nat) : Int) := by omega
  have hni : w64 (ninv k) := ipow_w hN.1 (by decide)
  have kn : ¬ (k:Int) < 0 := by omega
  have shu := shlu (k := k) (by omega)
  have shi := shlk (k := k) (by omega)
  rw [Int.toNat_natCast] at shu shi
  have hne : ((V.length : Int) != ((2 ^ k : Nat) : Int)) = false := by
    rw [hV]; simp
  have bf : (false || false) = false := rfl
  have bff : ((!true) || false) = false := rfl
  have nt : (!true) = false := rfl
  have e1 : ipow 288230376287764481 (rootF k) 288230376287764479 = winv k := rfl
  have e2 : ipow 288230376287764481 ((2 ^ k : Nat) : Int) 288230376287764479 = ninv k := rfl
  have cp1 := modular_Pow_c hR hr (e := 288230376287764479) (by decide)
  have cp2 := modular_Pow_c hR hN (e := 288230376287764479) (by decide)
  rw [e1] at cp1
  rw [e2] at cp2
  unfold invF
  rw [← lT] at hV
  clear e1 e2
  generalize turnF k (winv k) V = T at *
  generalize 2 ^ k = N at *
  generalize winv k = wi at *
  generalize ninv k = ni at *
  generalize rootF k = w at *
  replace hV := hid hV
  replace lT := hid lT
  repeat refine AW.seq ?_
  refine AW.reg ?_
  iterate 2 refine AOL.s1 (h := ?_)
  refine AOL.nil ?_
  refine AW.kq [0, 1] (h := ?_)
  repeat refine AW.seq ?_
  refine AW.reg ?_
  iterate 1 refine AOL.s1 (h := ?_)
  refine AOL.callD rfl (cr) (by kernel_rfl) rfl rfl (h := ?_)
  iterate 5 refine AOL.s1 (h := ?_)
  refine AOL.nil ?_
  refine AW.kq [0, 1, 6, 7] (h := ?_)
  repeat refine AW.seq ?_
  refine AW.reg ?_
  iterate 3 refine AOL.s1 (h := ?_)
  refine AOL.kq [0, 1, 6, 18] (h := ?_)
  iterate 6 refine AOL.s1 (h := ?_)
  refine AOL.nil ?_
  refine AW.kq [0, 1, 6, 24] (h := ?_)
  repeat refine AW.seq ?_
  refine AW.cond rfl (fun c_ => ?_) (fun c_ => ?_)
  · cases c_
  refine AW.skip ?_
  repeat refine AW.seq ?_
  refine AW.reg ?_
  iterate 2 refine AOL.s1 (h := ?_)
  refine AOL.callD rfl (cp1) (by kernel_rfl) rfl rfl (h := ?_)
  refine AOL.callO 5000 (ct) rfl (by kernel_rfl) rfl (by first | rfl | exact frees_fm (fun _ => rfl) _) (by intro l_ hl_; simp [labs, labss] at hl_ <;> exact hl_) (by decide) (by simp only [St.drop, mapT, mapH, kill, kills, del, St.put, ins, ren, rens, reduceIte, Nat.reduceLT, Nat.reduceEqDiff, Bool.false_eq_true]; exact rfl) ?_
  iterate 1 refine AOL.s1 (h := ?_)
  refine AOL.nil ?_
  refine AW.kq [1, 8] (h := ?_)
  repeat refine AW.seq ?_
  refine AW.reg ?_
  iterate 2 refine AOL.s1 (h := ?_)
  refine AOL.callD rfl (cp2) (by kernel_rfl) rfl rfl (h := ?_)
  iterate 1 refine AOL.s1 (h := ?_)
  refine AOL.nil ?_
  refine AW.kq [8, 9] (h := ?_)
  repeat refine AW.seq ?_
  refine AW.reg ?_
  iterate 3 refine AOL.s1 (h := ?_)
  refine AOL.nil ?_
  refine AW.kq [8, 9, 34, 35] (h := ?_)
  repeat refine AW.seq ?_
  refine AW.block ?_
  repeat refine AW.seq ?_
  clear cr ct cp1 cp2 hne
  refine AW.loopK [8, 9, 34, 35] (fun n s => ∃ (j : Nat), s = ⟨49, [(8, .ref 5000 0 V.length 1), (9, u ni), (34, i V.length), (35, i j)], [(5000, blk (mpL (mulR ni) T j))]⟩ ∧ j ≤ V.length ∧ n = V.length - j) (V.length) ?_ ?_
  · exact ⟨0, by rw [mpL_zero]; rfl, Nat.zero_le _, rfl⟩
  rintro n s ⟨j, rfl, jV, rfl⟩
  repeat refine AW.seq ?_
  refine AW.reg ?_
  iterate 1 refine AOL.s1 (h := ?_)
  refine AOL.nil ?_
  refine AW.kq [8, 9, 34, 35, 36] (h := ?_)
  repeat refine AW.seq ?_
  refine AW.cond rfl (fun c_ => ?_) (fun c_ => ?_)
  · have hV' : V.length = T.length := hV
    have hj : j < V.length := by have : (j:Int) < V.length := by simpa using c_
                                 omega
    obtain ⟨v, hv, hvw, _⟩ := at_nat (V := T) (n := j) (by omega) wT
    have hg := mpL_get (mulR ni) hv
    have hset := mpL_set (mulR ni) hv
    have hlen := (mpL_len (mulR ni) T j).trans hV'.symm
    obtain ⟨v', hv', _, hvd⟩ := at_nat (V := mpL (mulR ni) T j) (n := j) (by omega) (mpL_w _ wT (fun _ => w64_r _) j)
    obtain rfl : v = v' := by rw [hg] at hv'; exact Option.some.inj hv'
    have j0 : (0:Int) ≤ j := by omega
    have j1 : (j:Int) < V.length := by omega
    have hfs := fset (mpL (mulR ni) T j) j (mulR ni v)
    rw [hset] at hfs
    have hfs : ((fm u1 (mpL (mulR ni) T j)).set j (u (v * ni % 288230376287764481))) = fm u1 (mpL (mulR ni) T (j + 1)) := hfs
    have hfl := fml (mpL (mulR ni) T j)
    rw [hlen] at hfl
    have lTl : T.length = N := lT
    have hVN : V.length ≤ 4096 := by omega
    have hiw := incq hj (by omega)
    have jl : j + 1 ≤ V.length := hj
    clear hV' hv hv' hg hset hlen c_ lTl
    refine AW.skip ?_
    repeat refine AW.seq ?_
    refine AW.block ?_
    repeat refine AW.seq ?_
    refine AW.reg ?_
    iterate 2 refine AOL.s1 (h := ?_)
    refine AOL.nil ?_
    refine AW.kq [8, 9, 10, 34, 35] (h := ?_)
    repeat refine AW.seq ?_
    refine AW.reg ?_
    iterate 7 refine AOL.s1 (h := ?_)
    refine AOL.callD rfl (poly_mul_c hvw hni) (by kernel_rfl) rfl rfl (h := ?_)
    iterate 2 refine AOL.s1 (h := ?_)
    refine AOL.nil ?_
    repeat refine AW.seq ?_
    refine AW.reg ?_
    iterate 2 refine AOL.s1 (h := ?_)
    refine AOL.nil ?_
    exact ⟨V.length - (j + 1), by omega, j + 1, rfl, hj, rfl⟩
  · have hj : j = V.length := by have : ¬ (j:Int) < V.length := by simpa using c_
                                 omega
    subst hj
    have hV' : V.length = T.length := hV
    have hfull : mpL (mulR ni) T V.length = T.map (mulR ni) := by rw [hV', mpL_full]
    rw [hfull]
    clear hV' hfull
    repeat refine AW.seq ?_
    refine AW.exit ?_
    repeat (first | refine Kseq.ex ?_ | refine Kloop.ex ?_ | refine Kblock.miss (by decide) ?_)
    refine Kblock.hit ?_
    refine AW.kq [8] (h := ?_)
    repeat refine AW.seq ?_
    refine AW.reg ?_
    iterate 3 refine AOL.s1 (h := ?_)
    refine AOL.nil ?_
    refine AW.kq [4, 5] (h := ?_)
    repeat refine AW.seq ?_
    refine AW.ret ?_
    refine ⟨_, [(5000, _)], rfl, (fun p_ hp_ => by simp only [List.mem_singleton] at hp_; subst hp_; first | exact List.mem_cons_self | exact List.mem_cons_of_mem _ List.mem_cons_self | exact List.mem_cons_of_mem _ (List.mem_cons_of_mem _ List.mem_cons_self)), ?_⟩
    refine Tells.one 5000 (by decide) ?_
    first | rfl | exact frees_fm (fun _ => rfl) _
    skip
def addAt (L : List Int) (j : Nat) (v : Int) : List Int := L.set j ((L[j]?.getD 0 + v) % 288230376287764481)
theorem addAt_len (L : List Int) (j : Nat) (v : Int) : (addAt L j v).length = L.length := by simp [addAt]
theorem addAt_w {L : List Int} (h : wV L) (j : Nat) (v : Int) : wV (addAt L j v) := set_w h (w64_r _) j
def mulRow : List Int → Nat → Int → List Int → List Int
  | L, _, _, [] => L
  | L, j, a, b :: q => mulRow (addAt L j (a * b % 288230376287764481)) (j + 1) a q
theorem mulRow_len : ∀ (q : List Int) (L : List Int) (j : Nat) (a : Int), (mulRow L j a q).length = L.length
  | [], L, j, a => rfl
  | b :: q, L, j, a => by simp only [mulRow]; rw [mulRow_len q, addAt_len]
theorem mulRow_w : ∀ (q : List Int) {L : List Int} (j : Nat) (a : Int), wV L → wV (mulRow L j a q)
  | [], L, j, a, h => h
  | b :: q, L, j, a, h => mulRow_w q _ _ (addAt_w h _ _)
def mulAll : List Int → Nat → List Int → List Int → List Int
  | L, _, [], _ => L
  | L, j, a :: p, q => mulAll (mulRow L j a q) (j + 1) p q
theorem mulAll_len : ∀ (p : List Int) (L : List Int) (j : Nat) (q : List Int), (mulAll L j p q).length = L.length
  | [], L, j, q => rfl
  | a :: p, L, j, q => by simp only [mulAll]; rw [mulAll_len p, mulRow_len]
theorem mulAll_w : ∀ (p : List Int) {L : List Int} (j : Nat) (q : List Int), wV L → wV (mulAll L j p q)
  | [], L, j, q, h => h
  | a :: p, L, j, q, h => mulAll_w p _ _ (mulRow_w q _ _ h)
def mulL (p q : List Int) : List Int := mulAll (List.replicate (p.length + q.length) 0) 0 p q
theorem mulL_len (p q : List Int) : (mulL p q).length = p.length + q.length := by unfold mulL; rw [mulAll_len, List.length_replicate]
theorem mulL_w (p q : List Int) : wV (mulL p q) := mulAll_w _ _ _ (rep_w _)
set_option maxHeartbeats 16000000 in
theorem poly_Mul_o {p q : List Int} (hp : 0 < p.length) (lp : p.length ≤ 4096) (lq : q.length ≤ 4096) (wp : wV p) (wq : wV q) : Fn Try.prog 61 [ul p, ul q] [] (Tells (.ref 1000 0 (shortL (mulL p q)).length 1) [(1000, blk (mulL p q))]) := by
  refine Fn.enter Try.func61 Try.ntmps61 rfl (h := ?_)
  have tf := tfr
  have ot_ : (false || true) = true := rfl
  have hwN : IntKind.i64.wrap ((p.length : Int) + q.length) = ((p.length + q.length : Nat) : Int) := by rw [wrapI_o (by omega) (by omega)]; rfl
  have hmk := mk64 (n := p.length + q.length) (by omega)
  have e0 : mulL p q = mulAll (List.replicate (p.length + q.length) 0) 0 p q := rfl
  have lM := mulL_len p q
  have wM := mulL_w p q
  generalize mulL p q = MM at *
  replace lM := hid lM
  repeat refine AW.seq ?_
  refine AW.reg ?_
  iterate 1 refine AOL.s1 (h := ?_)
  refine AOL.nil ?_
  refine AW.kq [0, 1] (h := ?_)
  repeat refine AW.seq ?_
  refine AW.reg ?_
  iterate 7 refine AOL.s1 (h := ?_)
  refine AOL.nil ?_
  refine AW.kq [0, 1, 5] (h := ?_)
  repeat refine AW.seq ?_
  refine AW.reg ?_
  iterate 3 refine AOL.s1 (h := ?_)
  refine AOL.nil ?_
  refine AW.kq [1, 5, 16, 17, 18] (h := ?_)
  repeat refine AW.seq ?_
  refine AW.block ?_
  repeat refine AW.seq ?_
  refine AW.loopK [1, 5, 16, 17, 18] (fun n' s => ∃ (j : Nat) (r L : List Int), s = ⟨49, [(1, ul q), (5, .ref 1240 0 (p.length + q.length) 1), (16, ul p), (17, i p.length), (18, i j)], [(1240, blk L)]⟩ ∧ p.drop j = r ∧ j ≤ p.length ∧ n' = r.length ∧ L.length = p.length + q.length ∧ wV L ∧ mulAll L j r q = MM) (p.length) ?_ ?_
  · exact ⟨0, p, _, rfl, rfl, Nat.zero_le _, rfl, List.length_replicate, rep_w _, e0.symm⟩
  rintro n' s ⟨j, r, L, rfl, hr, hkl, rfl, hL, wL, hM⟩
  repeat refine AW.seq ?_
  refine AW.reg ?_
  iterate 1 refine AOL.s1 (h := ?_)
  refine AOL.nil ?_
  refine AW.kq [1, 5, 16, 17, 18, 19] (h := ?_)
  repeat refine AW.seq ?_
  refine AW.cond rfl (fun c_ => ?_) (fun c_ => ?_)
  · obtain ⟨a, r, rfl⟩ := ends_cons hr hkl (by simpa using c_)
    obtain ⟨hlt, hr', hat⟩ := dconsq hr
    obtain ⟨a', ha', haw, hda⟩ := at_nat (V := p) (n := j) (by omega) wp
    obtain rfl : a = a' := by rw [hat] at ha'; exact Option.some.inj ha'
    have j0 : (0:Int) ≤ j := by omega
    have j1 : (j:Int) < p.length := by omega
    have hiw := incq hlt (by omega)
    have hM : mulAll (mulRow L j a q) (j + 1) r q = MM := hM
    have lR := mulRow_len q L j a
    have wR := mulRow_w q j a wL
    have eR : mulRow L j a q = mulRow L j a q := rfl
    generalize hRR : mulRow L j a q = RR' at *
    replace hRR := hid hRR
    have lR : Hid (RR'.length = p.length + q.length) := lR.trans hL
    replace hL := hid hL
    clear eR hmk e0 hr hat ha' c_
    refine AW.skip ?_
    repeat refine AW.seq ?_
    refine AW.block ?_
    repeat refine AW.seq ?_
    refine AW.reg ?_
    iterate 5 refine AOL.s1 (h := ?_)
    refine AOL.nil ?_
    refine AW.kq [1, 5, 6, 7, 16, 17, 18] (h := ?_)
    repeat refine AW.seq ?_
    refine AW.reg ?_
    iterate 3 refine AOL.s1 (h := ?_)
    refine AOL.nil ?_
    refine AW.kq [1, 5, 6, 7, 16, 17, 18, 23, 24, 25] (h := ?_)
    repeat refine AW.seq ?_
    refine AW.block ?_
    repeat refine AW.seq ?_
    refine AW.loopK [1, 5, 6, 7, 16, 17, 18, 23, 24, 25] (fun n' s => ∃ (i_ : Nat) (t L1 : List Int), s = ⟨49, [(1, ul q), (5, .ref 1240 0 (p.length + q.length) 1), (6, i j), (7, u a), (16, ul p), (17, i p.length), (18, i j), (23, ul q), (24, i q.length), (25, i i_)], [(1240, blk L1)]⟩ ∧ q.drop i_ = t ∧ i_ ≤ q.length ∧ n' = t.length ∧ L1.length = p.length + q.length ∧ wV L1 ∧ mulRow L1 (j + i_) a t = RR') (q.length) ?_ ?_
    · exact ⟨0, q, L, rfl, rfl, Nat.zero_le _, rfl, hL, wL, hRR⟩
    rintro n' s ⟨i_, t, L1, rfl, ht, hil, rfl, hL1, wL1, hR1⟩
    repeat refine AW.seq ?_
    refine AW.reg ?_
    iterate 1 refine AOL.s1 (h := ?_)
    refine AOL.nil ?_
    refine AW.kq [1, 5, 6, 7, 16, 17, 18, 23, 24, 25, 26] (h := ?_)
    repeat refine AW.seq ?_
    refine AW.cond rfl (fun d_ => ?_) (fun d_ => ?_)
    · obtain ⟨b, t, rfl⟩ := ends_cons ht hil (by simpa using d_)
      obtain ⟨hlt2, ht', hbt⟩ := dconsq ht
      obtain ⟨b', hb', hbw, hdb⟩ := at_nat (V := q) (n := i_) (by omega) wq
      obtain rfl : b = b' := by rw [hbt] at hb'; exact Option.some.inj hb'
      have i0 : (0:Int) ≤ i_ := by omega
      have i1 : (i_:Int) < q.length := by omega
      have hiw2 := incq hlt2 (by omega)
      have hsum : IntKind.i64.wrap ((j:Int) + i_) = ((j + i_ : Nat) : Int) := by rw [wrapI_o (by omega) (by omega)]; rfl
      have s0 : (0:Int) ≤ ((j + i_ : Nat) : Int) := by omega
      have s1 : ((j + i_ : Nat) : Int) < ((p.length + q.length : Nat) : Int) := by omega
      obtain ⟨c, hc, hcw, hdc⟩ := at_nat (V := L1) (n := j + i_) (by omega) wL1
      have hR1 : mulRow (addAt L1 (j + i_) (a * b % 288230376287764481)) (j + i_ + 1) a t = RR' := hR1
      have hA : addAt L1 (j + i_) (a * b % 288230376287764481) = L1.set (j + i_) ((c + a * b % 288230376287764481) % 288230376287764481) := by simp only [addAt, hc, Option.getD_some]
      have lA := (addAt_len L1 (j + i_) (a * b % 288230376287764481)).trans hL1
      have wA := addAt_w wL1 (j + i_) (a * b % 288230376287764481)
      have hfs := fset L1 (j + i_) ((c + a * b % 288230376287764481) % 288230376287764481)
      rw [← hA] at hfs
      have hfl := fml L1
      rw [hL1] at hfl
      have b1 : j + i_ + 1 ≤ p.length + q.length := by omega
      generalize addAt L1 (j + i_) (a * b % 288230376287764481) = L2 at *
      replace lA := hid lA
      have hR1 : Hid (mulRow L2 (j + (i_ + 1)) a t = RR') := hR1
      clear hL1 hc hA ht hbt hb' d_
      refine AW.skip ?_
      repeat refine AW.seq ?_
      refine AW.block ?_
      repeat refine AW.seq ?_
      refine AW.reg ?_
      iterate 5 refine AOL.s1 (h := ?_)
      refine AOL.nil ?_
      refine AW.kq [1, 5, 6, 7, 8, 9, 16, 17, 18, 23, 24, 25] (h := ?_)
      repeat refine AW.seq ?_
      refine AW.drw 14 [] (by kernel_rfl) (h := ?_)
      iterate 12 refine ADL.dm 1 (h := ?_)
      refine ADL.call rfl (poly_mul_c haw hbw) (by kernel_rfl) rfl rfl (h := ?_)
      refine ADL.call rfl (modular_Add_c hR hcw (w64_r _)) (by kernel_rfl) rfl rfl (h := ?_)
      refine ADL.done hmix rfl rfl (hT := ?_)
      iterate 2 refine AOL.s1 (h := ?_)
      refine AOL.nil ?_
      repeat refine AW.seq ?_
      refine AW.reg ?_
      iterate 2 refine AOL.s1 (h := ?_)
      refine AOL.nil ?_
      exact ⟨t.length, by simp, i_ + 1, t, L2, rfl, ht', hlt2, rfl, lA, wA, hR1⟩
    · obtain rfl := ends_nil ht (by simpa using d_)
      have hg : L1 = RR' := hR1
      subst hg
      repeat refine AW.seq ?_
      refine AW.exit ?_
      repeat (first | refine Kseq.ex ?_ | refine Kloop.ex ?_ | refine Kblock.miss (by decide) ?_)
      refine Kblock.hit ?_
      repeat refine AW.seq ?_
      refine AW.reg ?_
      iterate 2 refine AOL.s1 (h := ?_)
      refine AOL.nil ?_
      exact ⟨r.length, by simp, j + 1, r, L1, rfl, hr', hlt, rfl, lR, wR, hM⟩
  · obtain rfl := ends_nil hr (by simpa using c_)
    have hg : L = MM := hM
    subst hg
    clear e0 hmk hM
    have cs := poly_short_o wM (by omega)
    rw [hL] at cs
    have hnz : (blk L).cs ≠ [] := fm_ne (by omega)
    repeat refine AW.seq ?_
    refine AW.exit ?_
    repeat (first | refine Kseq.ex ?_ | refine Kloop.ex ?_ | refine Kblock.miss (by decide) ?_)
    refine Kblock.hit ?_
    refine AW.kq [5] (h := ?_)
    repeat refine AW.seq ?_
    refine AW.reg ?_
    iterate 1 refine AOL.s1 (h := ?_)
    refine AOL.call1 1240 (cs) rfl (by kernel_rfl) rfl (by intro l_ hl_; simp [labs, labss] at hl_ <;> exact hl_) (by first | rfl | exact frees_fm (fun _ => rfl) _) (by first | rfl | exact frees_fm (fun _ => rfl) _) (by intro l_ hl_; simp [labs, labss] at hl_ <;> exact hl_) (by assumption) rfl (by simp only [St.drop, mapT, mapH, kill, kills, del, St.put, ins, ren, rens, reduceIte, Nat.reduceLT, Nat.reduceEqDiff, Bool.false_eq_true]; exact rfl) ?_
    iterate 1 refine AOL.s1 (h := ?_)
    refine AOL.nil ?_
    refine AW.kq [4] (h := ?_)
    repeat refine AW.seq ?_
    skip
    refine AW.ret ?_
    exact ⟨_, [(1240, _)], rfl, (fun p_ hp_ => hp_), Tells.one 1240 (by decide) (frees_fm (fun _ => rfl) _)⟩
end Go.Proofs.Ytdbpjegocmdplaa.E.M
end
section
/- Quotients by what vanishes on a domain: a contract over E. -/
set_option linter.unusedVariables false
set_option linter.unusedSimpArgs false
set_option maxRecDepth 10000
open Go Go.Proofs.Ytdbpjegocmdplaa.E Go.Proofs
namespace Go.Proofs.Ytdbpjegocmdplaa.E.M
def vanF (n : Nat) : Nat → List Int → List Int → List Int × List Int
  | 0, rest, out => (rest, out)
  | m + 1, rest, out => vanF n m ((rest.set m ((rest[m]?.getD 0 + rest[n + m]?.getD 0) % 288230376287764481)).set (n + m) 0) (out.set m (rest[n + m]?.getD 0))
theorem vanF_len (n : Nat) : ∀ (m : Nat) (rest out : List Int), (vanF n m rest out).1.length = rest.length ∧ (vanF n m rest out).2.length = out.length
  | 0, rest, out => ⟨rfl, rfl⟩
  | m + 1, rest, out => by
    have ⟨h1, h2⟩ := vanF_len n m ((rest.set m ((rest[m]?.getD 0 + rest[n + m]?.getD 0) % 288230376287764481)).set (n + m) 0) (out.set m (rest[n + m]?.getD 0))
    simp only [vanF, h1, h2, List.length_set, and_self]
theorem getD_w {L : List Int} (h : wV L) (j : Nat) : w64 (L[j]?.getD 0) := by
  cases hj : L[j]? with
  | none => show w64 0; decide
  | some v => exact h v (List.mem_of_getElem? hj)
theorem vanF_w (n : Nat) : ∀ (m : Nat) {rest out : List Int}, wV rest → wV out → wV (vanF n m rest out).1 ∧ wV (vanF n m rest out).2
  | 0, rest, out, h1, h2 => ⟨h1, h2⟩
  | m + 1, rest, out, h1, h2 => vanF_w n m (set_w (set_w h1 (w64_r _) m) (by decide) (n + m)) (set_w h2 (getD_w h1 _) m)
def redF (p : List Int) (j : Nat) : Int := (p[j]?.getD 0) % 288230376287764481
def vanR (n : Nat) (p : List Int) : List Int × List Int := vanF n (p.length - n) ((List.range p.length).map (redF p)) (List.replicate (p.length - n) 0)
def vanOk (n : Nat) (p : List Int) : Bool := (shortL (vanR n p).1).isEmpty
def vanV (n : Nat) (p : List Int) : List Int := shortL (vanR n p).2
theorem redL_w (p : List Int) : wV ((List.range p.length).map (redF p)) := by
  intro v hv; obtain ⟨j, _, rfl⟩ := List.mem_map.1 hv; exact w64_r _
set_option maxHeartbeats 16000000 in
theorem poly_Vanish_o {k M : Nat} {p : List Int} (hk : k ≤ 12) (hp : p.length = 2 ^ k + M) (lp : p.length ≤ 100000) (wp : wV p) : Fn Try.prog 62 [ul p, i k] [] (fun r h_ => (vanOk (2 ^ k) p = false ∧ r = .tup [.val (.slice none 0 0), er 8] ∧ h_ = []) ∨ (vanOk (2 ^ k) p = true ∧ M = 0 ∧ r = .tup [ul [], nil_] ∧ h_ = []) ∨ (vanOk (2 ^ k) p = true ∧ 0 < M ∧ Tells (.tup [.ref 1000 0 (vanV (2 ^ k) p).length 1, nil_]) [(1000, blk (vanR (2 ^ k) p).2)] r h_)) := by
  refine Fn.enter Try.func62 Try.ntmps62 rfl (h := ?_)
  have tf := tfr
  have ot_ : (false || true) = true := rfl
  have cr := poly_Root_c hk
  obtain ⟨t1, t2⟩ := two_le hk
  have kn : ¬ (k:Int) < 0 := by omega
  have shi := shlk (k := k) (by omega)
  rw [Int.toNat_natCast] at shi
  have nt : (!true) = false := rfl
  have hM : p.length - 2 ^ k = M := by omega
  have hmk := mk64 (n := p.length) (by omega)
  have hmk2 := mk64 (n := M) (by omega)
  have hmx : (if (0:Int) > (M:Int) then (0:Int) else (M:Int)) = M := by rw [if_neg (by omega)]
  have eR : vanR (2 ^ k) p = vanF (2 ^ k) M ((List.range p.length).map (redF p)) (List.replicate M 0) := by unfold vanR; rw [hM]
  have eO : vanOk (2 ^ k) p = (shortL (vanR (2 ^ k) p).1).isEmpty := rfl
  have eV : vanV (2 ^ k) p = shortL (vanR (2 ^ k) p).2 := rfl
  obtain ⟨lr1, lr2⟩ := vanF_len (2 ^ k) M ((List.range p.length).map (redF p)) (List.replicate M 0)
  obtain ⟨wr1, wr2⟩ := vanF_w (2 ^ k) M (redL_w p) (rep_w M)
  rw [← eR] at lr1 lr2 wr1 wr2
  rw [List.length_map, List.length_range] at lr1
  rw [List.length_replicate] at lr2
  rw [eO, eV]
  clear eO eV hM
  generalize vanR (2 ^ k) p = VR at *
  generalize 2 ^ k = n at *
  generalize rootF k = w at *
  have hsub : IntKind.i64.wrap ((p.length : Int) - n) = (M : Int) := by rw [wrapI_o (by omega) (by omega)]; omega
  have hr0 : ¬ (288230376287764481 : Int) = 0 := by decide
  replace hp := hid hp
  replace lr1 := hid lr1
  replace lr2 := hid lr2
  replace eR := hid eR
  repeat refine AW.seq ?_
  refine AW.reg ?_
  iterate 2 refine AOL.s1 (h := ?_)
  refine AOL.nil ?_
  refine AW.kq [0, 1] (h := ?_)
  repeat refine AW.seq ?_
  refine AW.reg ?_
  iterate 1 refine AOL.s1 (h := ?_)
  refine AOL.callD rfl (cr) (by kernel_rfl) rfl rfl (h := ?_)
  iterate 5 refine AOL.s1 (h := ?_)
  refine AOL.nil ?_
  refine AW.kq [0, 1, 7] (h := ?_)
  repeat refine AW.seq ?_
  refine AW.reg ?_
  iterate 2 refine AOL.s1 (h := ?_)
  refine AOL.nil ?_
  refine AW.kq [0, 1, 7, 20] (h := ?_)
  repeat refine AW.seq ?_
  refine AW.cond rfl (fun c_ => ?_) (fun c_ => ?_)
  · cases c_
  refine AW.skip ?_
  repeat refine AW.seq ?_
  refine AW.reg ?_
  iterate 3 refine AOL.s1 (h := ?_)
  refine AOL.nil ?_
  refine AW.kq [0, 8] (h := ?_)
  repeat refine AW.seq ?_
  refine AW.reg ?_
  iterate 4 refine AOL.s1 (h := ?_)
  refine AOL.nil ?_
  refine AW.kq [0, 8, 9] (h := ?_)
  repeat refine AW.seq ?_
  refine AW.reg ?_
  iterate 3 refine AOL.s1 (h := ?_)
  refine AOL.nil ?_
  refine AW.kq [0, 8, 9, 27, 28, 29] (h := ?_)
  repeat refine AW.seq ?_
  refine AW.block ?_
  repeat refine AW.seq ?_
  clear cr hmk2
  refine AW.loopK [0, 8, 9, 27, 28, 29] (fun n' s => ∃ (j : Nat), s = ⟨89, [(0, ul p), (8, i n), (9, .ref 1416 0 p.length 1), (27, ul p), (28, i p.length), (29, i j)], [(1416, blk (upL (redF p) p.length j))]⟩ ∧ j ≤ p.length ∧ n' = p.length - j) (p.length) ?_ ?_
  · exact ⟨0, by rw [upL_zero]; rfl, Nat.zero_le _, rfl⟩
  rintro n' s ⟨j, rfl, jp, rfl⟩
  repeat refine AW.seq ?_
  refine AW.reg ?_
  iterate 1 refine AOL.s1 (h := ?_)
  refine AOL.nil ?_
  refine AW.kq [0, 8, 9, 27, 28, 29, 30] (h := ?_)
  repeat refine AW.seq ?_
  refine AW.cond rfl (fun c_ => ?_) (fun c_ => ?_)
  · have hj : j < p.length := by have : (j:Int) < p.length := by simpa using c_
                                 omega
    obtain ⟨v, hv, hvw, hvd⟩ := at_nat (V := p) (n := j) (by omega) wp
    have j0 : (0:Int) ≤ j := by omega
    have j1 : (j:Int) < p.length := by omega
    have hiw := incq hj (by omega)
    have htm := tmod_nn (m := 288230376287764481) hvw.1
    have hset := upL_set (redF p) hj
    have hlen := upL_len (redF p) jp
    have hrv : redF p j = v % 288230376287764481 := by simp only [redF, hv, Option.getD_some]
    have hfs := fset (upL (redF p) p.length j) j (redF p j)
    rw [hset, hrv] at hfs
    have hfl := fml (upL (redF p) p.length j)
    rw [hlen] at hfl
    have jl : j + 1 ≤ p.length := hj
    clear hset hlen hrv hv c_ hmk
    refine AW.skip ?_
    repeat refine AW.seq ?_
    refine AW.block ?_
    repeat refine AW.seq ?_
    refine AW.reg ?_
    iterate 5 refine AOL.s1 (h := ?_)
    refine AOL.nil ?_
    refine AW.kq [0, 8, 9, 10, 11, 27, 28, 29] (h := ?_)
    repeat refine AW.seq ?_
    refine AW.reg ?_
    iterate 6 refine AOL.s1 (h := ?_)
    refine AOL.nil ?_
    repeat refine AW.seq ?_
    refine AW.reg ?_
    iterate 2 refine AOL.s1 (h := ?_)
    refine AOL.nil ?_
    exact ⟨p.length - (j + 1), by omega, j + 1, rfl, hj, rfl⟩
  · have hj : j = p.length := by have : ¬ (j:Int) < p.length := by simpa using c_
                                 omega
    subst hj
    rw [upL_full]
    clear hmk
    have hmk2 := mk64 (n := M) (by have hp' : p.length = n + M := hp; omega)
    have hone : IntKind.i64.wrap ((p.length : Int) - 1) = ((n:Int) + M - 1) := by
      have hp' : p.length = n + M := hp
      rw [wrapI_o (by omega) (by omega)]; omega
    repeat refine AW.seq ?_
    refine AW.exit ?_
    repeat (first | refine Kseq.ex ?_ | refine Kloop.ex ?_ | refine Kblock.miss (by decide) ?_)
    refine Kblock.hit ?_
    refine AW.kq [0, 8, 9] (h := ?_)
    repeat refine AW.seq ?_
    refine AW.reg ?_
    iterate 7 refine AOL.s1 (h := ?_)
    refine AOL.nil ?_
    refine AW.kq [0, 8, 9, 12] (h := ?_)
    repeat refine AW.seq ?_
    refine AW.reg ?_
    iterate 4 refine AOL.s1 (h := ?_)
    refine AOL.nil ?_
    refine AW.kq [8, 9, 12, 13] (h := ?_)
    repeat refine AW.seq ?_
    refine AW.block ?_
    repeat refine AW.seq ?_
    refine AW.loopK [8, 9, 12, 13] (fun n' s => ∃ (m : Nat) (iv : Int) (rest out : List Int), s = ⟨89, [(8, i n), (9, .ref 1416 0 p.length 1), (12, .ref 1720 0 M 1), (13, i iv)], [(1416, blk rest), (1720, blk out)]⟩ ∧ m = n' ∧ m ≤ M ∧ iv = (n:Int) + m - 1 ∧ rest.length = p.length ∧ out.length = M ∧ wV rest ∧ wV out ∧ vanF n m rest out = VR) (M) ?_ ?_
    · exact ⟨M, _, _, _, rfl, rfl, Nat.le_refl _, rfl, by simp, by simp, redL_w p, rep_w M, Eq.symm eR⟩
    rintro n' s ⟨m, iv, rest, out, rfl, rfl, mM, hiv, lr, lo, wr, wo, hV⟩
    replace hiv := hid hiv
    repeat refine AW.seq ?_
    refine AW.reg ?_
    iterate 3 refine AOL.s1 (h := ?_)
    refine AOL.nil ?_
    refine AW.kq [8, 9, 12, 13, 51] (h := ?_)
    repeat refine AW.seq ?_
    refine AW.cond rfl (fun d_ => ?_) (fun d_ => ?_)
    · have hp' : p.length = n + M := hp
      have hiv : iv = (n:Int) + m - 1 := hiv
      have hm : 0 < m := by have : iv ≥ (n:Int) := by simpa using d_
                            omega
      obtain ⟨m', rfl⟩ : ∃ m', m = m' + 1 := ⟨m - 1, by omega⟩
      obtain rfl : iv = ((n + m' : Nat) : Int) := by omega
      clear hiv
      have hs1 : IntKind.i64.wrap (((n + m' : Nat) : Int) - n) = (m' : Int) := by rw [wrapI_o (by omega) (by omega)]; omega
      have hs2 : IntKind.i64.wrap (((n + m' : Nat) : Int) - 1) = (n : Int) + m' - 1 := by rw [wrapI_o (by omega) (by omega)]; omega
      obtain ⟨a, ha, haw, hda⟩ := at_nat (V := rest) (n := n + m') (by omega) wr
      obtain ⟨b, hb, hbw, hdb⟩ := at_nat (V := rest) (n := m') (by omega) wr
      have z1 : (0:Int) ≤ ((n + m' : Nat) : Int) := by omega
      have z2 : ((n + m' : Nat) : Int) < p.length := by omega
      have z3 : (0:Int) ≤ (m' : Int) := by omega
      have z4 : (m' : Int) < (M : Int) := by omega
      have z5 : (m' : Int) < p.length := by omega
      have y1 : m' + 1 ≤ M := by omega
      have y2 : m' + 1 ≤ p.length := by omega
      have y3 : n + m' + 1 ≤ p.length := by omega
      have hV : vanF n m' ((rest.set m' ((b + a) % 288230376287764481)).set (n + m') 0) (out.set m' a) = VR := by
        rw [← hV]; simp only [vanF, ha, hb, Option.getD_some]
      have f1 := fset out m' a
      have f2 := fset rest m' ((b + a) % 288230376287764481)
      have f3 := fset (rest.set m' ((b + a) % 288230376287764481)) (n + m') 0
      have g1 := fml out
      have g2 := fml rest
      have g3 := fml (rest.set m' ((b + a) % 288230376287764481))
      rw [lo] at g1
      rw [lr] at g2
      rw [List.length_set, lr] at g3
      have wo2 := set_w wo haw m'
      have wr2' := set_w (set_w wr (w64_r (b + a)) m') (v := 0) (by decide) (n + m')
      have lo2 : (out.set m' a).length = M := by rw [List.length_set, lo]
      have lr2' : ((rest.set m' ((b + a) % 288230376287764481)).set (n + m') 0).length = p.length := by rw [List.length_set, List.length_set, lr]
      generalize rest.set m' ((b + a) % 288230376287764481) = R1 at *
      generalize R1.set (n + m') 0 = R2 at *
      generalize out.set m' a = O2 at *
      replace lo := hid lo
      replace lr := hid lr
      replace lo2 := hid lo2
      replace lr2' := hid lr2'
      replace hV := hid hV
      clear hp' ha hb d_ hmk2 hone hm
      refine AW.skip ?_
      repeat refine AW.seq ?_
      refine AW.block ?_
      repeat refine AW.seq ?_
      refine AW.reg ?_
      iterate 10 refine AOL.s1 (h := ?_)
      refine AOL.nil ?_
      refine AW.kq [8, 9, 12, 13] (h := ?_)
      repeat refine AW.seq ?_
      refine AW.drw 15 [] (by kernel_rfl) (h := ?_)
      iterate 14 refine ADL.dm 1 (h := ?_)
      refine ADL.call rfl (modular_Add_c hR hbw haw) (by kernel_rfl) rfl rfl (h := ?_)
      refine ADL.done hmix rfl rfl (hT := ?_)
      iterate 2 refine AOL.s1 (h := ?_)
      refine AOL.nil ?_
      refine AW.kq [8, 9, 12, 13] (h := ?_)
      repeat refine AW.seq ?_
      refine AW.reg ?_
      iterate 4 refine AOL.s1 (h := ?_)
      refine AOL.nil ?_
      repeat refine AW.seq ?_
      refine AW.reg ?_
      iterate 3 refine AOL.s1 (h := ?_)
      refine AOL.nil ?_
      exact ⟨m', by omega, m', _, R2, O2, rfl, rfl, by omega, rfl, lr2', lo2, wr2', wo2, hV⟩
    · have hiv : iv = (n:Int) + m - 1 := hiv
      have hm : m = 0 := by have : ¬ iv ≥ (n:Int) := by simpa using d_
                            omega
      subst hm
      clear hiv
      have hVR : (rest, out) = VR := hV
      subst hVR
      simp only
      have hsr : sub 0 (p.length * 1) (fm u1 rest) = fm u1 rest := sub_all (Nat.le_of_eq (by rw [fml, lr, Nat.mul_one]))
      have cs := poly_short_c wr (by omega)
      rw [ul_def rest, lr] at cs
      clear hmk2 hone hV eR
      have hln : ∀ L : List Int, ((L.length : Int) > 0) = (L.isEmpty = false) := by
        intro L; cases L <;> simp <;> omega
      repeat refine AW.seq ?_
      refine AW.exit ?_
      repeat (first | refine Kseq.ex ?_ | refine Kloop.ex ?_ | refine Kblock.miss (by decide) ?_)
      refine Kblock.hit ?_
      refine AW.kq [9, 12] (h := ?_)
      refine AW.fz 1416 rfl (fun h => by cases h) (h := ?_)
      rw [hsr]
      clear hsr
      repeat refine AW.seq ?_
      refine AW.reg ?_
      iterate 1 refine AOL.s1 (h := ?_)
      refine AOL.callD rfl (cs) (by kernel_rfl) rfl rfl (h := ?_)
      iterate 2 refine AOL.s1 (h := ?_)
      refine AOL.nil ?_
      refine AW.kq [12, 85] (h := ?_)
      repeat refine AW.seq ?_
      refine AW.cond rfl (fun e_ => ?_) (fun e_ => ?_)
      · have hem : (shortL rest).isEmpty = false := by simpa [hln] using e_
        rw [hem]
        repeat refine AW.seq ?_
        refine AW.reg ?_
        iterate 3 refine AOL.s1 (h := ?_)
        refine AOL.nil ?_
        refine AW.kq [4, 5] (h := ?_)
        repeat refine AW.seq ?_
        refine AW.ret ?_
        refine ⟨_, [], rfl, HOk.nil _, ?_⟩
        exact .inl ⟨rfl, rfl, rfl⟩
      have hem : (shortL rest).isEmpty = true := by simpa using e_
      rw [hem]
      clear cs
      cases M with
      | zero =>
        have hout : out = [] := List.eq_nil_of_length_eq_zero lo
        subst hout
        have cs := poly_short_c (L := []) (by intro v hv; cases hv) (by decide)
        refine AW.skip ?_
        refine AW.fz 1720 rfl (fun h => by cases h) (h := ?_)
        repeat refine AW.seq ?_
        refine AW.reg ?_
        iterate 1 refine AOL.s1 (h := ?_)
        refine AOL.callD rfl (cs) (by kernel_rfl) rfl rfl (h := ?_)
        iterate 2 refine AOL.s1 (h := ?_)
        refine AOL.nil ?_
        refine AW.kq [4, 5] (h := ?_)
        repeat refine AW.seq ?_
        refine AW.ret ?_
        refine ⟨_, [], rfl, HOk.nil _, ?_⟩
        exact .inr (.inl ⟨rfl, rfl, rfl, rfl⟩)
      | succ M =>
      have hp' : p.length = n + (M + 1) := hp
      have cs := poly_short_o wo (by omega)
      clear hp'
      rw [lo] at cs
      have hnz : (blk out).cs ≠ [] := fm_ne (by omega)
      refine AW.skip ?_
      repeat refine AW.seq ?_
      refine AW.reg ?_
      iterate 1 refine AOL.s1 (h := ?_)
      refine AOL.call1 1720 (cs) rfl (by kernel_rfl) rfl (by intro l_ hl_; simp [labs, labss] at hl_ <;> exact hl_) (by first | rfl | exact frees_fm (fun _ => rfl) _) (by first | rfl | exact frees_fm (fun _ => rfl) _) (by intro l_ hl_; simp [labs, labss] at hl_ <;> exact hl_) (by assumption) rfl (by simp only [St.drop, mapT, mapH, kill, kills, del, St.put, ins, ren, rens, reduceIte, Nat.reduceLT, Nat.reduceEqDiff, Bool.false_eq_true]; exact rfl) ?_
      iterate 2 refine AOL.s1 (h := ?_)
      refine AOL.nil ?_
      refine AW.kq [4, 5] (h := ?_)
      repeat refine AW.seq ?_
      skip
      refine AW.ret ?_
      refine ⟨_, [(1720, _)], rfl, (fun p_ hp_ => hp_), ?_⟩
      refine .inr (.inr ⟨rfl, Nat.succ_pos _, ?_⟩)
      refine Tells.one 1720 (by decide) ?_
      exact frees_fm (fun _ => rfl) _
end Go.Proofs.Ytdbpjegocmdplaa.E.M
end
section
/- What is left of values that hold: a contract over E. -/
set_option linter.unusedVariables false
set_option linter.unusedSimpArgs false
set_option maxRecDepth 10000
open Go Go.Proofs.Ytdbpjegocmdplaa.E Go.Proofs
namespace Go.Proofs.Ytdbpjegocmdplaa.E.M
abbrev TFq : Prop := tSz Try.prog 102 = some 3 ∧
    tAgg Try.prog 102 = some true ∧
    tBytes Try.prog 102 = some 72 ∧
    tZero Try.prog 102 = some [(.slice none 0 0), (.slice none 0 0), (.slice none 0 0)] ∧
    tSlice Try.prog 102 = none ∧
    tArray Try.prog 102 = some (3, 28) ∧
    Try.prog.underlying 102 = some (.array 3 28) ∧
    tIface Try.prog 102 = some false ∧
    tCls Try.prog 102 = .other ∧
    (∀ ps, aBuild Try.prog 102 ps = (aFill (fun i => some (i * 1, 1)) [.val (.slice none 0 0), .val (.slice none 0 0), .val (.slice none 0 0)] ps).map .agg)
theorem tfq : TFq :=
  ⟨rfl, rfl, rfl, rfl, rfl, rfl, rfl, rfl, rfl, fun _ => rfl⟩

def colF (V : List Int) (sel : Rw → List Tm) (l : List Rw) (j : Nat) : Int := valF V 0 (sel (l[j]?.getD default))
def colL (V : List Int) (sel : Rw → List Tm) (N : Nat) (l : List Rw) : List Int := upL (colF V sel l) N l.length
def subF : Nat → List Int → List Int → List Int
  | _, [], P => P
  | j, c :: C, P => subF (j + 1) C ((if j = P.length then P ++ [0] else P).set j ((((if j = P.length then P ++ [0] else P)[j]?.getD 0) - c) % 288230376287764481))
theorem subF_len : ∀ (C : List Int) (j : Nat) (P : List Int), j ≤ P.length → (subF j C P).length = max P.length (j + C.length)
  | [], j, P, h => by simp [subF]; omega
  | c :: C, j, P, h => by
    simp only [subF]
    rw [subF_len C (j + 1) _ (by rw [List.length_set]; split <;> (try simp only [List.length_append, List.length_singleton]) <;> omega)]
    rw [List.length_set, List.length_cons]
    split
    · rw [List.length_append, List.length_singleton]; omega
    · omega
theorem app_w {L M : List Int} (h : wV L) (k : wV M) : wV (L ++ M) := by
  intro v hv; rcases List.mem_append.1 hv with hv | hv
  · exact h v hv
  · exact k v hv
theorem subF_w : ∀ (C : List Int) (j : Nat) {P : List Int}, wV P → wV (subF j C P)
  | [], j, P, h => h
  | c :: C, j, P, h => by
    simp only [subF]
    refine subF_w C (j + 1) (set_w ?_ (w64_r _) j)
    split
    · exact app_w h (by intro v hv; simp at hv; subst hv; decide)
    · exact h
def quoP (s : Rk) (V : List Int) : List Int := subF 0 (invF (lg s.l.length) (colL V Rw.c (2 ^ lg s.l.length) s.l)) (shortL (mulL (invF (lg s.l.length) (colL V Rw.a (2 ^ lg s.l.length) s.l)) (invF (lg s.l.length) (colL V Rw.b (2 ^ lg s.l.length) s.l))))
theorem colF_w (V : List Int) (sel : Rw → List Tm) (l : List Rw) (j : Nat) : w64 (colF V sel l j) := valF_w _ (by decide)
theorem upL_w {f : Nat → Int} (hf : ∀ j, w64 (f j)) (n j : Nat) : wV (upL f n j) := by
  intro v hv
  unfold upL at hv
  rcases List.mem_append.1 hv with hv | hv
  · obtain ⟨a, _, rfl⟩ := List.mem_map.1 hv; exact hf a
  · exact rep_w _ v hv
set_option maxHeartbeats 2000000 in
theorem qap_Quotient_e1 {s : Rk} {V : List Int} (hS : Len s) (hc : chkF s = false) : Fn Try.prog 30 [.agg (rk s), ul V] [] (fun r _ => r = .tup [.val (.slice none 0 0), er 3]) := by
  have cs := qap_Size_c hS
  have esz : sizeF s = [i 0, er 3] := by simp [sizeF, hc]
  rw [esz] at cs
  refine Fn.enter Try.func30 Try.ntmps30 rfl (h := ?_)
  have tf := tfr
  repeat refine AW.seq ?_
  refine AW.reg ?_
  iterate 3 refine AOL.s1 (h := ?_)
  refine AOL.nil ?_
  refine AW.kq [1, 2] (h := ?_)
  repeat refine AW.seq ?_
  refine AW.reg ?_
  iterate 1 refine AOL.s1 (h := ?_)
  refine AOL.callD rfl (cs) (by kernel_rfl) rfl rfl (h := ?_)
  iterate 5 refine AOL.s1 (h := ?_)
  refine AOL.nil ?_
  refine AW.kq [1, 2, 6, 7] (h := ?_)
  repeat refine AW.seq ?_
  refine AW.reg ?_
  iterate 2 refine AOL.s1 (h := ?_)
  refine AOL.nil ?_
  refine AW.kq [1, 2, 6, 7, 23] (h := ?_)
  repeat refine AW.seq ?_
  refine AW.cond rfl (fun c_ => ?_) (fun c_ => ?_)
  · repeat refine AW.seq ?_
    refine AW.reg ?_
    iterate 3 refine AOL.s1 (h := ?_)
    refine AOL.nil ?_
    refine AW.kq [4, 5] (h := ?_)
    repeat refine AW.seq ?_
    refine AW.ret ?_
    refine ⟨_, [], rfl, HOk.nil _, ?_⟩
    rfl
  cases c_
set_option maxHeartbeats 2000000 in
theorem qap_Quotient_e2 {s : Rk} {V : List Int} {e : AV} (hS : Len s) (hc : chkF s = true) (hW : wR s) (hV : wV V) (lV : V.length < 1000000000) (he : holdsF s V = e) (hk : (∃ n, e = er n) ∨ ∃ k, e = spot k 8) : Fn Try.prog 30 [.agg (rk s), ul V] [] (fun r _ => r = .tup [.val (.slice none 0 0), e]) := by
  have cs := qap_Size_c hS
  have esz : sizeF s = [i (lg s.l.length : Nat), nil_] := by simp [sizeF, hc]
  rw [esz] at cs
  have ch := rank_Holds_c hS hW hV lV
  rw [he] at ch
  clear esz he
  rcases hk with ⟨n, rfl⟩ | ⟨n, rfl⟩
  iterate 2
    · refine Fn.enter Try.func30 Try.ntmps30 rfl (h := ?_)
      have tf := tfr
      have ot_ : (false || true) = true := rfl
      repeat refine AW.seq ?_
      refine AW.reg ?_
      iterate 3 refine AOL.s1 (h := ?_)
      refine AOL.nil ?_
      refine AW.kq [1, 2] (h := ?_)
      repeat refine AW.seq ?_
      refine AW.reg ?_
      iterate 1 refine AOL.s1 (h := ?_)
      refine AOL.callD rfl (cs) (by kernel_rfl) rfl rfl (h := ?_)
      iterate 5 refine AOL.s1 (h := ?_)
      refine AOL.nil ?_
      refine AW.kq [1, 2, 6, 7] (h := ?_)
      repeat refine AW.seq ?_
      refine AW.reg ?_
      iterate 2 refine AOL.s1 (h := ?_)
      refine AOL.nil ?_
      refine AW.kq [1, 2, 6, 7, 23] (h := ?_)
      repeat refine AW.seq ?_
      refine AW.cond rfl (fun c_ => ?_) (fun c_ => ?_)
      · cases c_
      refine AW.skip ?_
      repeat refine AW.seq ?_
      refine AW.reg ?_
      iterate 2 refine AOL.s1 (h := ?_)
      refine AOL.callD rfl (ch) (by kernel_rfl) rfl rfl (h := ?_)
      iterate 1 refine AOL.s1 (h := ?_)
      refine AOL.nil ?_
      refine AW.kq [1, 2, 6, 8] (h := ?_)
      repeat refine AW.seq ?_
      refine AW.reg ?_
      iterate 2 refine AOL.s1 (h := ?_)
      refine AOL.nil ?_
      refine AW.kq [1, 2, 6, 8, 29] (h := ?_)
      repeat refine AW.seq ?_
      refine AW.cond rfl (fun d_ => ?_) (fun d_ => ?_)
      · repeat refine AW.seq ?_
        refine AW.reg ?_
        iterate 3 refine AOL.s1 (h := ?_)
        refine AOL.nil ?_
        refine AW.kq [4, 5] (h := ?_)
        repeat refine AW.seq ?_
        refine AW.ret ?_
        refine ⟨_, [], rfl, HOk.nil _, ?_⟩
        rfl
      cases d_
set_option maxHeartbeats 64000000 in
theorem qap_Quotient_o {s : Rk} {V : List Int} {k N : Nat} (hS : Len s) (hc : chkF s = true) (hW : wR s) (hV : wV V) (lV : V.length < 1000000000) (he : holdsF s V = nil_) (hk : lg s.l.length = k) (hN : 2 ^ k = N) :
    Fn Try.prog 30 [.agg (rk s), ul V] [] (fun r h_ => (vanOk N (quoP s V) = false ∧ r = .tup [.val (.slice none 0 0), er 8]) ∨ (vanOk N (quoP s V) = true ∧ (quoP s V).length = N ∧ r = .tup [ul [], nil_]) ∨ (vanOk N (quoP s V) = true ∧ N < (quoP s V).length ∧ Tells (.tup [.ref 1000 0 (vanV N (quoP s V)).length 1, nil_]) [(1000, blk (vanR N (quoP s V)).2)] r h_)) := by
  have cs := qap_Size_c hS
  have esz : sizeF s = [i (lg s.l.length : Nat), nil_] := by simp [sizeF, hc]
  rw [esz] at cs
  have ch := rank_Holds_c hS hW hV lV
  rw [he] at ch
  obtain ⟨k12, kN⟩ := lg_le (chk_len hc)
  rw [hk] at k12 kN cs
  have eP : quoP s V = subF 0 (invF k (colL V Rw.c N s.l)) (shortL (mulL (invF k (colL V Rw.a N s.l)) (invF k (colL V Rw.b N s.l)))) := by unfold quoP; rw [hk, hN]
  obtain ⟨t1, t2⟩ := two_le k12
  have kn : ¬ (k:Int) < 0 := by omega
  have shi := shlk (k := k) (by omega)
  rw [Int.toNat_natCast] at shi
  rw [hN] at t1 t2 shi kN
  clear esz he hc
  obtain ⟨sv, sp, sl_⟩ := s
  have hlens := hS.2
  have hws : ∀ r ∈ sl_, wT r.a ∧ wT r.b ∧ wT r.c := hW
  simp only at hlens hk kN eP
  have hmk := mk64 (n := N) (by omega)
  clear hS hW hk
  refine Fn.enter Try.func30 Try.ntmps30 rfl (h := ?_)
  have tf := tfr
  have tfq := tfq
  have ot_ : (false || true) = true := rfl
  have i03 : decide ((0:Int) < 3) = true := rfl
  have i13 : decide ((1:Int) < 3) = true := rfl
  have i23 : decide ((2:Int) < 3) = true := rfl
  have i33 : decide ((3:Int) < 3) = false := rfl
  have q0 : (0:Int) ≤ 0 := by decide
  have q1 : (0:Int) ≤ 1 := by decide
  have q2 : (0:Int) ≤ 2 := by decide
  have x0 : (0:Int) < ((3:Nat):Int) := by decide
  have x1 : (1:Int) < ((3:Nat):Int) := by decide
  have x2 : (2:Int) < ((3:Nat):Int) := by decide
  have n0 : Int.toNat 0 = 0 := rfl
  have n1 : Int.toNat 1 = 1 := rfl
  have n2 : Int.toNat 2 = 2 := rfl
  have p1 : IntKind.i64.wrap (0 + 1) = 1 := by decide
  have p2 : IntKind.i64.wrap (1 + 1) = 2 := by decide
  have p3 : IntKind.i64.wrap (2 + 1) = 3 := by decide
  have y0 : (0:Nat) + 1 ≤ 3 := by decide
  have y1 : (1:Nat) + 1 ≤ 3 := by decide
  have y2 : (2:Nat) + 1 ≤ 3 := by decide
  repeat refine AW.seq ?_
  refine AW.reg ?_
  iterate 3 refine AOL.s1 (h := ?_)
  refine AOL.nil ?_
  refine AW.kq [1, 2] (h := ?_)
  repeat refine AW.seq ?_
  refine AW.reg ?_
  iterate 1 refine AOL.s1 (h := ?_)
  refine AOL.callD rfl (cs) (by kernel_rfl) rfl rfl (h := ?_)
  iterate 5 refine AOL.s1 (h := ?_)
  refine AOL.nil ?_
  refine AW.kq [1, 2, 6, 7] (h := ?_)
  repeat refine AW.seq ?_
  refine AW.reg ?_
  iterate 2 refine AOL.s1 (h := ?_)
  refine AOL.nil ?_
  refine AW.kq [1, 2, 6, 7, 23] (h := ?_)
  repeat refine AW.seq ?_
  refine AW.cond rfl (fun c_ => ?_) (fun c_ => ?_)
  · cases c_
  refine AW.skip ?_
  repeat refine AW.seq ?_
  refine AW.reg ?_
  iterate 2 refine AOL.s1 (h := ?_)
  refine AOL.callD rfl (ch) (by kernel_rfl) rfl rfl (h := ?_)
  iterate 1 refine AOL.s1 (h := ?_)
  refine AOL.nil ?_
  refine AW.kq [1, 2, 6, 8] (h := ?_)
  repeat refine AW.seq ?_
  refine AW.reg ?_
  iterate 2 refine AOL.s1 (h := ?_)
  refine AOL.nil ?_
  refine AW.kq [1, 2, 6, 8, 29] (h := ?_)
  repeat refine AW.seq ?_
  refine AW.cond rfl (fun d_ => ?_) (fun d_ => ?_)
  · cases d_
  clear cs ch
  refine AW.skip ?_
  repeat refine AW.seq ?_
  refine AW.reg ?_
  iterate 1 refine AOL.s1 (h := ?_)
  refine AOL.nil ?_
  refine AW.kq [1, 2, 6, 9] (h := ?_)
  repeat refine AW.seq ?_
  refine AW.reg ?_
  iterate 1 refine AOL.s1 (h := ?_)
  refine AOL.nil ?_
  refine AW.kq [1, 2, 6, 9, 31] (h := ?_)
  repeat refine AW.seq ?_
  refine AW.block ?_
  repeat refine AW.seq ?_
  refine AW.rounds ?_
  refine AWin.next [1, 2, 6, 9, 31] (h := ?_)
  repeat refine AW.seq ?_
  refine AW.reg ?_
  iterate 1 refine AOL.s1 (h := ?_)
  refine AOL.nil ?_
  refine AW.kq [1, 2, 6, 9, 31, 32] (h := ?_)
  repeat refine AW.seq ?_
  refine AW.cond rfl (fun c_ => ?_) (fun c_ => ?_)
  rotate_left
  · cases c_
  refine AW.skip ?_
  repeat refine AW.seq ?_
  refine AW.block ?_
  repeat refine AW.seq ?_
  refine AW.reg ?_
  iterate 2 refine AOL.s1 (h := ?_)
  refine AOL.nil ?_
  refine AW.kq [1, 2, 6, 9, 10, 31] (h := ?_)
  repeat refine AW.seq ?_
  refine AW.reg ?_
  iterate 6 refine AOL.s1 (h := ?_)
  refine AOL.nil ?_
  refine AW.mv 1592 3000 (h := ?_)
  repeat refine AW.seq ?_
  refine AW.reg ?_
  iterate 2 refine AOL.s1 (h := ?_)
  refine AOL.nil ?_
  refine AWin.next [1, 2, 6, 9, 31] (h := ?_)
  repeat refine AW.seq ?_
  refine AW.reg ?_
  iterate 1 refine AOL.s1 (h := ?_)
  refine AOL.nil ?_
  refine AW.kq [1, 2, 6, 9, 31, 32] (h := ?_)
  repeat refine AW.seq ?_
  refine AW.cond rfl (fun c_ => ?_) (fun c_ => ?_)
  rotate_left
  · cases c_
  refine AW.skip ?_
  repeat refine AW.seq ?_
  refine AW.block ?_
  repeat refine AW.seq ?_
  refine AW.reg ?_
  iterate 2 refine AOL.s1 (h := ?_)
  refine AOL.nil ?_
  refine AW.kq [1, 2, 6, 9, 10, 31] (h := ?_)
  repeat refine AW.seq ?_
  refine AW.reg ?_
  iterate 6 refine AOL.s1 (h := ?_)
  refine AOL.nil ?_
  refine AW.mv 1592 3001 (h := ?_)
  repeat refine AW.seq ?_
  refine AW.reg ?_
  iterate 2 refine AOL.s1 (h := ?_)
  refine AOL.nil ?_
  refine AWin.next [1, 2, 6, 9, 31] (h := ?_)
  repeat refine AW.seq ?_
  refine AW.reg ?_
  iterate 1 refine AOL.s1 (h := ?_)
  refine AOL.nil ?_
  refine AW.kq [1, 2, 6, 9, 31, 32] (h := ?_)
  repeat refine AW.seq ?_
  refine AW.cond rfl (fun c_ => ?_) (fun c_ => ?_)
  rotate_left
  · cases c_
  refine AW.skip ?_
  repeat refine AW.seq ?_
  refine AW.block ?_
  repeat refine AW.seq ?_
  refine AW.reg ?_
  iterate 2 refine AOL.s1 (h := ?_)
  refine AOL.nil ?_
  refine AW.kq [1, 2, 6, 9, 10, 31] (h := ?_)
  repeat refine AW.seq ?_
  refine AW.reg ?_
  iterate 6 refine AOL.s1 (h := ?_)
  refine AOL.nil ?_
  refine AW.mv 1592 3002 (h := ?_)
  repeat refine AW.seq ?_
  refine AW.reg ?_
  iterate 2 refine AOL.s1 (h := ?_)
  refine AOL.nil ?_
  refine AWin.next [1, 2, 6, 9, 31] (h := ?_)
  repeat refine AW.seq ?_
  refine AW.reg ?_
  iterate 1 refine AOL.s1 (h := ?_)
  refine AOL.nil ?_
  refine AW.kq [1, 2, 6, 9, 31, 32] (h := ?_)
  repeat refine AW.seq ?_
  refine AW.cond rfl (fun c_ => ?_) (fun c_ => ?_)
  · cases c_
  repeat refine AW.seq ?_
  refine AW.exit ?_
  repeat (first | refine Kseq.ex ?_ | refine Kloop.ex ?_ | refine Kblock.miss (by decide) ?_)
  refine Kblock.hit ?_
  refine AW.kq [1, 2, 6, 9] (h := ?_)
  clear hmk
  repeat refine AW.seq ?_
  refine AW.reg ?_
  iterate 4 refine AOL.s1 (h := ?_)
  refine AOL.nil ?_
  refine AW.kq [1, 6, 9, 41, 42, 43] (h := ?_)
  refine AW.let 1032 (h := ?_)
  have wz := rep_w N
  have hsl4 : sl_.length ≤ 4096 := by omega
  repeat refine AW.seq ?_
  refine AW.block ?_
  repeat refine AW.seq ?_
  refine AW.loopK [1, 6, 9, 41, 42, 43] (fun n' s => ∃ (j : Nat) (r : List Rw), s = ⟨125, [(1, ul V), (6, i k), (9, .ptr 1144 0), (41, slF rw_ sl_), (42, i sl_.length), (43, i j)], [(1144, ⟨102, true, [.ref 3000 0 N 1, .ref 3001 0 N 1, .ref 3002 0 N 1]⟩), (3002, blk (upL (colF V Rw.c sl_) N j)), (3001, blk (upL (colF V Rw.b sl_) N j)), (3000, blk (upL (colF V Rw.a sl_) N j))]⟩ ∧ sl_.drop j = r ∧ j ≤ sl_.length ∧ n' = r.length) sl_.length ?_ ?_
  · exact ⟨0, sl_, by rw [upL_zero, upL_zero, upL_zero]; rfl, rfl, Nat.zero_le _, rfl⟩
  rintro n' s ⟨j, r, rfl, hr, hkl, rfl⟩
  repeat refine AW.seq ?_
  refine AW.reg ?_
  iterate 1 refine AOL.s1 (h := ?_)
  refine AOL.nil ?_
  refine AW.kq [1, 6, 9, 41, 42, 43, 44] (h := ?_)
  repeat refine AW.seq ?_
  refine AW.cond rfl (fun e_ => ?_) (fun e_ => ?_)
  · obtain ⟨t, r, rfl⟩ := ends_cons hr hkl (by simpa using e_)
    obtain ⟨hlt, hr', ht⟩ := dconsq hr
    have hd : (fm rw_ sl_).drop (j * 3) = slF tm t.a :: slF tm t.b :: slF tm t.c :: fm rw_ r := fm_drop rw_len hr
    have k0 : (0:Int) ≤ j := by omega
    have k1 : (j:Int) < sl_.length := by omega
    have k2 : (j:Int) < (N:Int) := by omega
    have hiw := incq hlt (by omega)
    obtain ⟨la, lb, lc⟩ := hlens t (List.mem_of_getElem? ht)
    obtain ⟨wa, wb, wc⟩ := hws t (List.mem_of_getElem? ht)
    have ca := rank_Value_c la hV wa
    have cb := rank_Value_c lb hV wb
    have cc := rank_Value_c lc hV wc
    have hjN : j < N := by omega
    have ea : colF V Rw.a sl_ j = valF V 0 t.a := by simp only [colF, ht, Option.getD_some]
    have eb : colF V Rw.b sl_ j = valF V 0 t.b := by simp only [colF, ht, Option.getD_some]
    have ec : colF V Rw.c sl_ j = valF V 0 t.c := by simp only [colF, ht, Option.getD_some]
    have sa := upL_set (colF V Rw.a sl_) hjN
    have sb := upL_set (colF V Rw.b sl_) hjN
    have sc := upL_set (colF V Rw.c sl_) hjN
    have ga := upL_len (colF V Rw.a sl_) (Nat.le_of_lt hjN)
    have gb := upL_len (colF V Rw.b sl_) (Nat.le_of_lt hjN)
    have gc := upL_len (colF V Rw.c sl_) (Nat.le_of_lt hjN)
    rw [ea] at sa
    rw [eb] at sb
    rw [ec] at sc
    have fa := fset (upL (colF V Rw.a sl_) N j) j (valF V 0 t.a)
    have fb := fset (upL (colF V Rw.b sl_) N j) j (valF V 0 t.b)
    have fc := fset (upL (colF V Rw.c sl_) N j) j (valF V 0 t.c)
    rw [sa] at fa
    rw [sb] at fb
    rw [sc] at fc
    have ma := fml (upL (colF V Rw.a sl_) N j)
    have mb := fml (upL (colF V Rw.b sl_) N j)
    have mc := fml (upL (colF V Rw.c sl_) N j)
    rw [ga] at ma
    rw [gb] at mb
    rw [gc] at mc
    have jN1 : j + 1 ≤ N := hjN
    clear ea eb ec sa sb sc ga gb gc hr ht e_ la lb lc wa wb wc hlens hws hV
    generalize valF V 0 t.a = va at *
    generalize valF V 0 t.b = vb at *
    generalize valF V 0 t.c = vc at *
    generalize hA1 : upL (colF V Rw.a sl_) N (j + 1) = A1 at *
    replace hA1 := hid hA1
    generalize hB1 : upL (colF V Rw.b sl_) N (j + 1) = B1 at *
    replace hB1 := hid hB1
    generalize hC1 : upL (colF V Rw.c sl_) N (j + 1) = C1 at *
    replace hC1 := hid hC1
    refine AW.skip ?_
    repeat refine AW.seq ?_
    refine AW.block ?_
    repeat refine AW.seq ?_
    refine AW.reg ?_
    iterate 6 refine AOL.s1 (h := ?_)
    refine AOL.nil ?_
    refine AW.kq [1, 6, 9, 11, 12, 41, 42, 43] (h := ?_)
    repeat refine AW.seq ?_
    refine AW.dw [(22, 3000, blk A1), (24, 3001, blk B1)] 25 [] (by kernel_rfl) (h := ?_)
    iterate 12 refine ADLW.d1 (h := ?_)
    refine ADLW.call rfl rfl (ca) (by kernel_rfl) rfl rfl (by simp only [List.cons_append, List.nil_append]; exact rfl) ?_
    iterate 3 refine ADLW.d1 (h := ?_)
    refine ADLW.call rfl rfl (cb) (by kernel_rfl) rfl rfl (by simp only [List.cons_append, List.nil_append]; exact rfl) ?_
    iterate 3 refine ADLW.d1 (h := ?_)
    refine ADLW.call rfl rfl (cc) (by kernel_rfl) rfl rfl (by simp only [List.cons_append, List.nil_append]; exact rfl) ?_
    iterate 1 refine ADLW.d1 (h := ?_)
    refine ADLW.st (h := ?_)
    iterate 1 refine ADLW.d1 (h := ?_)
    refine ADLW.st (h := ?_)
    refine ADLW.fin hmix rfl rfl rfl rfl (hT := ?_)
    iterate 2 refine AOL.s1 (h := ?_)
    refine AOL.nil ?_
    refine AW.let 1192 (h := ?_)
    repeat refine AW.seq ?_
    refine AW.reg ?_
    iterate 2 refine AOL.s1 (h := ?_)
    refine AOL.nil ?_
    exact ⟨r.length, by simp, j + 1, r, by rw [show upL (colF V Rw.a sl_) N (j + 1) = A1 from hA1, show upL (colF V Rw.b sl_) N (j + 1) = B1 from hB1, show upL (colF V Rw.c sl_) N (j + 1) = C1 from hC1]; rfl, hr', hlt, rfl⟩
  obtain rfl := ends_nil hr (by simpa using e_)
  have hj : j = sl_.length := dnilq hr hkl
  subst hj
  have wA : wV (colL V Rw.a N sl_) := upL_w (colF_w V _ _) _ _
  have wB : wV (colL V Rw.b N sl_) := upL_w (colF_w V _ _) _ _
  have wC : wV (colL V Rw.c N sl_) := upL_w (colF_w V _ _) _ _
  have lA : (colL V Rw.a N sl_).length = N := upL_len _ kN
  have lB : (colL V Rw.b N sl_).length = N := upL_len _ kN
  have lC : (colL V Rw.c N sl_).length = N := upL_len _ kN
  have cA := poly_Inverse_o k12 (lA.trans hN.symm) wA
  have cB := poly_Inverse_o k12 (lB.trans hN.symm) wB
  have cC := poly_Inverse_o k12 (lC.trans hN.symm) wC
  have eA : upL (colF V Rw.a sl_) N sl_.length = colL V Rw.a N sl_ := rfl
  have eB : upL (colF V Rw.b sl_) N sl_.length = colL V Rw.b N sl_ := rfl
  have eC : upL (colF V Rw.c sl_) N sl_.length = colL V Rw.c N sl_ := rfl
  rw [eA, eB, eC]
  clear eA eB eC hr e_ hws hlens hV kN wz
  have lIA := invF_len k (colL V Rw.a N sl_)
  have lIB := invF_len k (colL V Rw.b N sl_)
  have lIC := invF_len k (colL V Rw.c N sl_)
  have wIA := invF_w k (colL V Rw.a N sl_)
  have wIB := invF_w k (colL V Rw.b N sl_)
  have wIC := invF_w k (colL V Rw.c N sl_)
  rw [hN] at lIA lIB lIC
  rw [ul_def (colL V Rw.a N sl_), lA] at cA
  rw [ul_def (colL V Rw.b N sl_), lB] at cB
  rw [ul_def (colL V Rw.c N sl_), lC] at cC
  have hsA : sub 0 (N * 1) (fm u1 (colL V Rw.a N sl_)) = fm u1 (colL V Rw.a N sl_) := sub_all (Nat.le_of_eq (by rw [fml, lA, Nat.mul_one]))
  have hsB : sub 0 (N * 1) (fm u1 (colL V Rw.b N sl_)) = fm u1 (colL V Rw.b N sl_) := sub_all (Nat.le_of_eq (by rw [fml, lB, Nat.mul_one]))
  have hsC : sub 0 (N * 1) (fm u1 (colL V Rw.c N sl_)) = fm u1 (colL V Rw.c N sl_) := sub_all (Nat.le_of_eq (by rw [fml, lC, Nat.mul_one]))
  clear lA lB lC wA wB wC
  generalize invF k (colL V Rw.a N sl_) = IA at *
  generalize invF k (colL V Rw.b N sl_) = IB at *
  generalize invF k (colL V Rw.c N sl_) = IC at *
  generalize colL V Rw.a N sl_ = A0 at *
  generalize colL V Rw.b N sl_ = B0 at *
  generalize colL V Rw.c N sl_ = C0 at *
  generalize quoP ⟨sv, sp, sl_⟩ V = QP at *
  repeat refine AW.seq ?_
  refine AW.exit ?_
  repeat (first | refine Kseq.ex ?_ | refine Kloop.ex ?_ | refine Kblock.miss (by decide) ?_)
  refine Kblock.hit ?_
  refine AW.kq [6, 9] (h := ?_)
  refine AW.fz 3000 rfl (fun h => by cases h) (h := ?_)
  refine AW.fz 3001 rfl (fun h => by cases h) (h := ?_)
  refine AW.fz 3002 rfl (fun h => by cases h) (h := ?_)
  rw [hsA, hsB, hsC]
  clear hsA hsB hsC
  replace lIA := hid lIA
  replace lIB := hid lIB
  replace lIC := hid lIC
  replace eP := hid eP
  repeat refine AW.seq ?_
  refine AW.reg ?_
  iterate 1 refine AOL.s1 (h := ?_)
  refine AOL.nil ?_
  refine AW.kq [6, 9, 73] (h := ?_)
  repeat refine AW.seq ?_
  refine AW.block ?_
  repeat refine AW.seq ?_
  refine AW.rounds ?_
  refine AWin.next [6, 9, 73] (h := ?_)
  repeat refine AW.seq ?_
  refine AW.reg ?_
  iterate 1 refine AOL.s1 (h := ?_)
  refine AOL.nil ?_
  refine AW.kq [6, 9, 73, 74] (h := ?_)
  repeat refine AW.seq ?_
  refine AW.cond rfl (fun c_ => ?_) (fun c_ => ?_)
  rotate_left
  · cases c_
  refine AW.skip ?_
  repeat refine AW.seq ?_
  refine AW.block ?_
  repeat refine AW.seq ?_
  refine AW.reg ?_
  iterate 2 refine AOL.s1 (h := ?_)
  refine AOL.nil ?_
  refine AW.kq [6, 9, 13, 73] (h := ?_)
  repeat refine AW.seq ?_
  refine AW.reg ?_
  iterate 5 refine AOL.s1 (h := ?_)
  refine AOL.callO 5000 (cA) rfl (by kernel_rfl) rfl (by first | rfl | exact frees_fm (fun _ => rfl) _) (by intro l_ hl_; simp [labs, labss] at hl_ <;> exact hl_) (by decide) (by simp only [St.drop, mapT, mapH, kill, kills, del, St.put, ins, ren, rens, reduceIte, Nat.reduceLT, Nat.reduceEqDiff, Bool.false_eq_true]; exact rfl) ?_
  iterate 6 refine AOL.s1 (h := ?_)
  refine AOL.nil ?_
  refine AW.kq [6, 7, 9, 73] (h := ?_)
  repeat refine AW.seq ?_
  refine AW.reg ?_
  iterate 2 refine AOL.s1 (h := ?_)
  refine AOL.nil ?_
  refine AW.kq [6, 7, 9, 73, 87] (h := ?_)
  repeat refine AW.seq ?_
  refine AW.cond rfl (fun f_ => ?_) (fun f_ => ?_)
  · cases f_
  refine AW.skip ?_
  refine AW.mv 5000 4000 (h := ?_)
  repeat refine AW.seq ?_
  refine AW.reg ?_
  iterate 2 refine AOL.s1 (h := ?_)
  refine AOL.nil ?_
  refine AWin.next [6, 9, 73] (h := ?_)
  repeat refine AW.seq ?_
  refine AW.reg ?_
  iterate 1 refine AOL.s1 (h := ?_)
  refine AOL.nil ?_
  refine AW.kq [6, 9, 73, 74] (h := ?_)
  repeat refine AW.seq ?_
  refine AW.cond rfl (fun c_ => ?_) (fun c_ => ?_)
  rotate_left
  · cases c_
  refine AW.skip ?_
  repeat refine AW.seq ?_
  refine AW.block ?_
  repeat refine AW.seq ?_
  refine AW.reg ?_
  iterate 2 refine AOL.s1 (h := ?_)
  refine AOL.nil ?_
  refine AW.kq [6, 9, 13, 73] (h := ?_)
  repeat refine AW.seq ?_
  refine AW.reg ?_
  iterate 5 refine AOL.s1 (h := ?_)
  refine AOL.callO 5000 (cB) rfl (by kernel_rfl) rfl (by first | rfl | exact frees_fm (fun _ => rfl) _) (by intro l_ hl_; simp [labs, labss] at hl_ <;> exact hl_) (by decide) (by simp only [St.drop, mapT, mapH, kill, kills, del, St.put, ins, ren, rens, reduceIte, Nat.reduceLT, Nat.reduceEqDiff, Bool.false_eq_true]; exact rfl) ?_
  iterate 6 refine AOL.s1 (h := ?_)
  refine AOL.nil ?_
  refine AW.kq [6, 7, 9, 73] (h := ?_)
  repeat refine AW.seq ?_
  refine AW.reg ?_
  iterate 2 refine AOL.s1 (h := ?_)
  refine AOL.nil ?_
  refine AW.kq [6, 7, 9, 73, 87] (h := ?_)
  repeat refine AW.seq ?_
  refine AW.cond rfl (fun f_ => ?_) (fun f_ => ?_)
  · cases f_
  refine AW.skip ?_
  refine AW.mv 5000 4001 (h := ?_)
  repeat refine AW.seq ?_
  refine AW.reg ?_
  iterate 2 refine AOL.s1 (h := ?_)
  refine AOL.nil ?_
  refine AWin.next [6, 9, 73] (h := ?_)
  repeat refine AW.seq ?_
  refine AW.reg ?_
  iterate 1 refine AOL.s1 (h := ?_)
  refine AOL.nil ?_
  refine AW.kq [6, 9, 73, 74] (h := ?_)
  repeat refine AW.seq ?_
  refine AW.cond rfl (fun c_ => ?_) (fun c_ => ?_)
  rotate_left
  · cases c_
  refine AW.skip ?_
  repeat refine AW.seq ?_
  refine AW.block ?_
  repeat refine AW.seq ?_
  refine AW.reg ?_
  iterate 2 refine AOL.s1 (h := ?_)
  refine AOL.nil ?_
  refine AW.kq [6, 9, 13, 73] (h := ?_)
  repeat refine AW.seq ?_
  refine AW.reg ?_
  iterate 5 refine AOL.s1 (h := ?_)
  refine AOL.callO 5000 (cC) rfl (by kernel_rfl) rfl (by first | rfl | exact frees_fm (fun _ => rfl) _) (by intro l_ hl_; simp [labs, labss] at hl_ <;> exact hl_) (by decide) (by simp only [St.drop, mapT, mapH, kill, kills, del, St.put, ins, ren, rens, reduceIte, Nat.reduceLT, Nat.reduceEqDiff, Bool.false_eq_true]; exact rfl) ?_
  iterate 6 refine AOL.s1 (h := ?_)
  refine AOL.nil ?_
  refine AW.kq [6, 7, 9, 73] (h := ?_)
  repeat refine AW.seq ?_
  refine AW.reg ?_
  iterate 2 refine AOL.s1 (h := ?_)
  refine AOL.nil ?_
  refine AW.kq [6, 7, 9, 73, 87] (h := ?_)
  repeat refine AW.seq ?_
  refine AW.cond rfl (fun f_ => ?_) (fun f_ => ?_)
  · cases f_
  refine AW.skip ?_
  refine AW.mv 5000 4002 (h := ?_)
  repeat refine AW.seq ?_
  refine AW.reg ?_
  iterate 2 refine AOL.s1 (h := ?_)
  refine AOL.nil ?_
  refine AWin.next [6, 9, 73] (h := ?_)
  repeat refine AW.seq ?_
  refine AW.reg ?_
  iterate 1 refine AOL.s1 (h := ?_)
  refine AOL.nil ?_
  refine AW.kq [6, 9, 73, 74] (h := ?_)
  repeat refine AW.seq ?_
  refine AW.cond rfl (fun c_ => ?_) (fun c_ => ?_)
  · cases c_
  repeat refine AW.seq ?_
  refine AW.exit ?_
  repeat (first | refine Kseq.ex ?_ | refine Kloop.ex ?_ | refine Kblock.miss (by decide) ?_)
  refine Kblock.hit ?_
  refine AW.kq [6, 9] (h := ?_)
  have lIA' : IA.length = N := lIA
  have lIB' : IB.length = N := lIB
  have lIC' : IC.length = N := lIC
  have hsA : sub 0 (N * 1) (fm u1 IA) = fm u1 IA := sub_all (Nat.le_of_eq (by rw [fml, lIA', Nat.mul_one]))
  have hsB : sub 0 (N * 1) (fm u1 IB) = fm u1 IB := sub_all (Nat.le_of_eq (by rw [fml, lIB', Nat.mul_one]))
  have hsC : sub 0 (N * 1) (fm u1 IC) = fm u1 IC := sub_all (Nat.le_of_eq (by rw [fml, lIC', Nat.mul_one]))
  refine AW.fz 4000 rfl (fun h => by cases h) (h := ?_)
  refine AW.fz 4001 rfl (fun h => by cases h) (h := ?_)
  refine AW.fz 4002 rfl (fun h => by cases h) (h := ?_)
  rw [hsA, hsB, hsC]
  clear hsA hsB hsC
  have cM := poly_Mul_o (p := IA) (q := IB) (by omega) (by omega) (by omega) wIA wIB
  rw [ul_def IA, ul_def IB, lIA', lIB'] at cM
  have lM := mulL_len IA IB
  have wM := mulL_w IA IB
  have wP0 := shortL_w wM
  have lP0 := shortL_le (mulL IA IB)
  have htk : (fm u1 (mulL IA IB)).take (shortL (mulL IA IB)).length = fm u1 (shortL (mulL IA IB)) := by
    obtain ⟨r, h⟩ := shortL_pre (mulL IA IB)
    have : fm u1 (mulL IA IB) = fm u1 (shortL (mulL IA IB)) ++ fm u1 r := by rw [← fm_app, ← h]
    rw [this, List.take_append_of_le_length (by rw [fml]; omega), List.take_of_length_le (by rw [fml]; omega)]
  rw [lIA', lIB'] at lM
  rw [lM] at lP0
  have eP : QP = subF 0 IC (shortL (mulL IA IB)) := eP
  clear lM lIA' lIB' wM cA cB cC
  repeat refine AW.seq ?_
  refine AW.reg ?_
  iterate 4 refine AOL.s1 (h := ?_)
  refine AOL.callO 6000 (cM) rfl (by kernel_rfl) rfl (by first | rfl | exact frees_fm (fun _ => rfl) _) (by intro l_ hl_; simp [labs, labss] at hl_ <;> exact hl_) (by decide) (by simp only [St.drop, mapT, mapH, kill, kills, del, St.put, ins, ren, rens, reduceIte, Nat.reduceLT, Nat.reduceEqDiff, Bool.false_eq_true]; exact rfl) ?_
  iterate 1 refine AOL.s1 (h := ?_)
  refine AOL.nil ?_
  refine AW.kq [6, 9, 14] (h := ?_)
  refine AW.tr 6000 (shortL (mulL IA IB)).length (h := ?_)
  rw [htk]
  clear htk cM
  generalize shortL (mulL IA IB) = P0 at *
  rw [show (AV.sl N (fm u1 IC)) = ul IC by rw [ul_def, lIC']]
  have eQ : subF 0 IC P0 = QP := eP.symm
  have lQ : QP.length = max P0.length N := by rw [eP, subF_len IC 0 P0 (Nat.zero_le _), lIC']; omega
  have wQ : wV QP := by rw [eP]; exact subF_w IC 0 wP0
  clear eP
  replace lIC' := hid lIC'
  repeat refine AW.seq ?_
  refine AW.reg ?_
  iterate 4 refine AOL.s1 (h := ?_)
  refine AOL.nil ?_
  refine AW.kq [6, 14, 96, 97, 98] (h := ?_)
  refine AW.let 1144 (h := ?_)
  repeat refine AW.seq ?_
  refine AW.block ?_
  repeat refine AW.seq ?_
  refine AW.loopK [6, 14, 96, 97, 98] (fun n' s => ∃ (j : Nat) (r P : List Int), s = ⟨125, [(6, i k), (14, .ref 6000 0 P.length 1), (96, ul IC), (97, i IC.length), (98, i j)], [(6000, blk P)]⟩ ∧ IC.drop j = r ∧ j ≤ IC.length ∧ n' = r.length ∧ j ≤ P.length ∧ P.length ≤ 12288 ∧ wV P ∧ subF j r P = QP) IC.length ?_ ?_
  · exact ⟨0, IC, P0, rfl, rfl, Nat.zero_le _, rfl, Nat.zero_le _, by omega, wP0, eQ⟩
  rintro n' s ⟨j, r, P, rfl, hr, hkl, rfl, jP, lP, wP, hP⟩
  repeat refine AW.seq ?_
  refine AW.reg ?_
  iterate 1 refine AOL.s1 (h := ?_)
  refine AOL.nil ?_
  refine AW.kq [6, 14, 96, 97, 98, 99] (h := ?_)
  repeat refine AW.seq ?_
  refine AW.cond rfl (fun e_ => ?_) (fun e_ => ?_)
  · have lIC2 : IC.length = N := lIC'
    obtain ⟨c, r, rfl⟩ := ends_cons hr hkl (by simpa using e_)
    obtain ⟨hlt, hr', hct⟩ := dconsq hr
    obtain ⟨c', hc', hcw, hdc⟩ := at_nat (V := IC) (n := j) (by omega) wIC
    obtain rfl : c = c' := by rw [hct] at hc'; exact Option.some.inj hc'
    have k0 : (0:Int) ≤ j := by omega
    have k1 : (j:Int) < IC.length := by omega
    have hiw := incq hlt (by omega)
    simp only [subF] at hP
    have wP1 : wV (if j = P.length then P ++ [0] else P) := by
      split
      · exact app_w wP (by intro v hv; simp at hv; subst hv; decide)
      · exact wP
    have lP1 : (if j = P.length then P ++ [0] else P).length ≤ 12288 := by
      split
      · rw [List.length_append, List.length_singleton]; omega
      · exact lP
    have jP1 : j < (if j = P.length then P ++ [0] else P).length := by
      split
      · rw [List.length_append, List.length_singleton]; omega
      · omega
    have hif1 : j = P.length → (if j = P.length then P ++ [0] else P) = P ++ [0] := fun h => by rw [if_pos h]
    have hif2 : ¬ j = P.length → (if j = P.length then P ++ [0] else P) = P := fun h => by rw [if_neg h]
    generalize (if j = P.length then P ++ [0] else P) = P1 at *
    clear lIC2 hr hct hc' e_ lQ wQ eQ
    refine AW.skip ?_
    repeat refine AW.seq ?_
    refine AW.block ?_
    repeat refine AW.seq ?_
    refine AW.reg ?_
    iterate 5 refine AOL.s1 (h := ?_)
    refine AOL.nil ?_
    refine AW.kq [6, 14, 15, 16, 96, 97, 98] (h := ?_)
    repeat refine AW.seq ?_
    refine AW.reg ?_
    iterate 4 refine AOL.s1 (h := ?_)
    refine AOL.nil ?_
    refine AW.kq [6, 14, 15, 16, 96, 97, 98, 106] (h := ?_)
    repeat refine AW.seq ?_
    refine AW.midS [6, 14, 15, 16, 96, 97, 98] (fun t => t = ⟨125, [(6, i k), (14, .ref 6000 0 P1.length 1), (15, i j), (16, u c), (96, ul IC), (97, i IC.length), (98, i j)], [(6000, blk P1)]⟩) ?_ ?_
    · refine AW.cond rfl (fun g_ => ?_) (fun g_ => ?_)
      · have hjP : j = P.length := by have : (j:Int) = P.length := by simpa using g_
                                      omega
        have hP1 := hif1 hjP
        have f1 := fml P
        have f2 : P.length + 1 ≤ 140737488355328 := by omega
        have f3 : (P.length + 1) * 8 ≤ 140737488355328 := by omega
        have f4 : P.length + 1 ≤ 4611686018427387904 := by omega
        have f5 : P.length ≤ 140737488355327 := by omega
        have f6 : P.length ≤ 4611686018427387903 := by omega
        have f7 : fm u1 P ++ [u 0] = fm u1 P1 := by rw [hP1]; exact fm_snoc P 0
        have f8 : P1.length = P.length + 1 := by rw [hP1, List.length_append]; rfl
        have z3 : (1:Nat) ≤ 16777216 := by decide
        rw [f8]
        clear hif1 hif2 hP1 hjP jP1 lP1 f8 g_ jP lP wP1 hP
        repeat refine AW.seq ?_
        refine AW.reg ?_
        iterate 4 refine AOL.s1 (h := ?_)
        refine AOL.nil ?_
        exact ⟨_, Sub.drop _ 2728, rfl⟩
      · have hjP : ¬ j = P.length := by
          intro h
          have : ((j:Int) == P.length) = true := by rw [h]; simp
          have g_ : ((j:Int) == P.length) = false := g_
          rw [this] at g_; cases g_
        rw [hif2 hjP]
        refine AW.skip ?_
        exact ⟨_, Sub.refl _, rfl⟩
    rintro t rfl
    obtain ⟨v, hv, hvw, hdv⟩ := at_nat (V := P1) (n := j) (by omega) wP1
    have k2 : (j:Int) < P1.length := by omega
    rw [hv] at hP
    simp only [Option.getD_some] at hP
    have fs := fset P1 j ((v - c) % 288230376287764481)
    have fl := fml P1
    have jl : j + 1 ≤ P1.length := jP1
    have ls : (P1.set j ((v - c) % 288230376287764481)).length = P1.length := List.length_set
    have ws := set_w wP1 (w64_r (v - c)) j
    generalize P1.set j ((v - c) % 288230376287764481) = P2 at *
    have lP2 : P2.length ≤ 12288 := by omega
    have jP2 : j + 1 ≤ P2.length := by omega
    clear hif1 hif2 hv
    rw [← ls]
    have fl : (fm u1 P1).length = P2.length := by rw [fl, ls]
    have k2 : (j:Int) < P2.length := by omega
    clear ls lP1 jP1
    repeat refine AW.seq ?_
    refine AW.reg ?_
    iterate 7 refine AOL.s1 (h := ?_)
    refine AOL.callD rfl (modular_Sub_c hR hvw hcw) (by kernel_rfl) rfl rfl (h := ?_)
    iterate 2 refine AOL.s1 (h := ?_)
    refine AOL.nil ?_
    repeat refine AW.seq ?_
    refine AW.reg ?_
    iterate 2 refine AOL.s1 (h := ?_)
    refine AOL.nil ?_
    exact ⟨r.length, by simp, j + 1, r, P2, rfl, hr', hlt, rfl, jP2, lP2, ws, hP⟩
  obtain rfl := ends_nil hr (by simpa using e_)
  have hQ : P = QP := hP
  subst hQ
  have hNP : N ≤ P.length := by omega
  have hsP : sub 0 (P.length * 1) (fm u1 P) = fm u1 P := sub_all (Nat.le_of_eq (by rw [fml, Nat.mul_one]))
  have cV := poly_Vanish_o (k := k) (M := P.length - N) (p := P) k12 (by rw [hN]; omega) (by omega) wQ
  rw [hN] at cV
  clear eQ hP hr e_ lQ
  repeat refine AW.seq ?_
  refine AW.exit ?_
  repeat (first | refine Kseq.ex ?_ | refine Kloop.ex ?_ | refine Kblock.miss (by decide) ?_)
  refine Kblock.hit ?_
  refine AW.kq [6, 14] (h := ?_)
  refine AW.fz 6000 rfl (fun h => by cases h) (h := ?_)
  rw [hsP]
  clear hsP
  cases hok : vanOk N P with
  | false =>
    have cV : Fn Try.prog 62 [ul P, i k] [] (fun r _ => r = .tup [.val (.slice none 0 0), er 8]) := cV.mono (by
      rintro r h (⟨_, h2, _⟩ | ⟨h1, _⟩ | ⟨h1, _⟩)
      · exact h2
      · rw [hok] at h1; cases h1
      · rw [hok] at h1; cases h1)
    clear hok
    repeat refine AW.seq ?_
    refine AW.reg ?_
    iterate 2 refine AOL.s1 (h := ?_)
    refine AOL.callD rfl (cV) (by kernel_rfl) rfl rfl (h := ?_)
    iterate 4 refine AOL.s1 (h := ?_)
    refine AOL.nil ?_
    refine AW.kq [4, 5] (h := ?_)
    repeat refine AW.seq ?_
    refine AW.ret ?_
    refine ⟨_, [], rfl, HOk.nil _, ?_⟩
    exact .inl ⟨rfl, rfl⟩
  | true =>
  rcases Nat.eq_or_lt_of_le hNP with hM | hM
  · have cV : Fn Try.prog 62 [ul P, i k] [] (fun r _ => r = .tup [ul [], nil_]) := cV.mono (by
      rintro r h (⟨h1, _⟩ | ⟨_, _, h2, _⟩ | ⟨_, h1, _⟩)
      · rw [hok] at h1; cases h1
      · exact h2
      · omega)
    replace hM := hid hM
    clear hok
    repeat refine AW.seq ?_
    refine AW.reg ?_
    iterate 2 refine AOL.s1 (h := ?_)
    refine AOL.callD rfl (cV) (by kernel_rfl) rfl rfl (h := ?_)
    iterate 4 refine AOL.s1 (h := ?_)
    refine AOL.nil ?_
    refine AW.kq [4, 5] (h := ?_)
    repeat refine AW.seq ?_
    refine AW.ret ?_
    refine ⟨_, [], rfl, HOk.nil _, ?_⟩
    exact .inr (.inl ⟨rfl, Eq.symm hM, rfl⟩)
  · have cV : Fn Try.prog 62 [ul P, i k] [] (Tells (.tup [.ref 1000 0 (vanV N P).length 1, nil_]) [(1000, blk (vanR N P).2)]) := cV.mono (by
      rintro r h (⟨h1, _⟩ | ⟨_, h1, _⟩ | ⟨_, _, h2⟩)
      · rw [hok] at h1; cases h1
      · omega
      · exact h2)
    clear hok
    repeat refine AW.seq ?_
    refine AW.reg ?_
    iterate 2 refine AOL.s1 (h := ?_)
    refine AOL.callO 5000 (cV) rfl (by kernel_rfl) rfl (by first | rfl | exact frees_fm (fun _ => rfl) _) (by intro l_ hl_; simp [labs, labss] at hl_ <;> exact hl_) (by decide) (by simp only [St.drop, mapT, mapH, kill, kills, del, St.put, ins, ren, rens, reduceIte, Nat.reduceLT, Nat.reduceEqDiff, Bool.false_eq_true]; exact rfl) ?_
    iterate 4 refine AOL.s1 (h := ?_)
    refine AOL.nil ?_
    refine AW.kq [4, 5] (h := ?_)
    repeat refine AW.seq ?_
    refine AW.ret ?_
    refine ⟨_, [(5000, _)], rfl, (fun p_ hp_ => hp_), ?_⟩
    refine .inr (.inr ⟨rfl, hM, ?_⟩)
    refine Tells.one 5000 (by decide) ?_
    exact frees_fm (fun _ => rfl) _

end Go.Proofs.Ytdbpjegocmdplaa.E.M
end
