/- All variables' values anywhere: contracts over E. -/
import Derived.Test.YtdbpjegocmdplaaQapE
import Derived.Test.YtdbpjegocmdplaaProg
import Derived.KernelRfl
set_option linter.unusedVariables false
set_option linter.unusedSimpArgs false
set_option maxRecDepth 10000
open Go Go.Proofs.Ytdbpjegocmdplaa.E Go.Proofs
namespace Go.Proofs.Ytdbpjegocmdplaa.E.M
def Hid (p : Prop) : Prop := p
theorem hid {p : Prop} (h : p) : Hid p := h
theorem poly_Lagrange_c {k : Nat} {x : Int} (h : k ≤ 12) (hx : w64 x) : Fn Try.prog 50 [i k, u x] [] (fun r _ => r = .tup [ul (lagF k x), nil_]) := by
  refine (Fn.frozen (poly_Lagrange_o h hx) (frees_fm (fun _ => rfl) _)).mono ?_
  rintro r _ rfl
  show AV.tup [.sl (2 ^ k) (sub 0 (2 ^ k * 1) (fm u1 (lagF k x))), nil_] = _
  rw [sub_all (Nat.le_of_eq (by rw [fml, lagF_len, Nat.mul_one]))]
  show AV.tup [.sl (2 ^ k) (fm u1 (lagF k x)), nil_] = AV.tup [.sl (lagF k x).length (fm u1 (lagF k x)), nil_]
  rw [lagF_len]
def addF (by_ : Int) : List Int → List Tm → List Int
  | L, [] => L
  | L, t :: l => addF by_ (L.set t.v.toNat ((L[t.v.toNat]?.getD 0 + t.k * by_ % 288230376287764481) % 288230376287764481)) l
theorem addF_len (by_ : Int) : ∀ (l : List Tm) (L : List Int), (addF by_ L l).length = L.length
  | [], L => rfl
  | t :: l, L => by simp only [addF]; rw [addF_len by_ l, List.length_set]
theorem set_w {L : List Int} (h : wV L) {v : Int} (hv : w64 v) (j : Nat) : wV (L.set j v) := by
  intro a ha
  rcases List.mem_or_eq_of_mem_set ha with h' | rfl
  · exact h a h'
  · exact hv
theorem addF_w (by_ : Int) : ∀ (l : List Tm) (L : List Int), wV L → wV (addF by_ L l)
  | [], L, h => h
  | t :: l, L, h => addF_w by_ l _ (set_w h (w64_r _) _)
theorem fm_ne {L : List Int} (h : 0 < L.length) : fm u1 L ≠ [] := by
  intro e; have := fml L; rw [e] at this; simp at this; omega
abbrev inT (n : Nat) (l : List Tm) : Prop := ∀ t ∈ l, 0 ≤ t.v ∧ t.v < n ∧ w64 t.k
set_option maxHeartbeats 8000000 in
theorem qap_add_c {n : Nat} {L : List Int} {l : List Tm} {by_ : Int} (hL : L.length = n) (hn : 0 < n) (hw : wV L) (hl : inT n l) (hll : l.length < 1000000000) (hb : w64 by_) : Fn Try.prog 51 [.ref 0 0 n 1, slF tm l, u by_] [(0, blk L)] (Tells (.tup []) [(0, blk (addF by_ L l))]) := by
  refine Fn.enter Try.func51 Try.ntmps51 rfl (h := ?_)
  have tf := tfr
  have ot_ : (false || true) = true := rfl
  repeat refine AW.seq ?_
  refine AW.reg ?_
  iterate 3 refine AOL.s1 (h := ?_)
  refine AOL.nil ?_
  refine AW.kq [0, 2, 8, 9, 10] (h := ?_)
  repeat refine AW.seq ?_
  refine AW.block ?_
  repeat refine AW.seq ?_
  refine AW.loopK [0, 2, 8, 9, 10] (fun n' s => ∃ (k : Nat) (r : List Tm) (M : List Int), s = ⟨29, [(0, .ref 0 0 n 1), (2, u by_), (8, slF tm l), (9, i l.length), (10, i k)], [(0, blk M)]⟩ ∧ l.drop k = r ∧ k ≤ l.length ∧ n' = r.length ∧ M.length = n ∧ wV M ∧ addF by_ M r = addF by_ L l) (l.length) ?_ ?_
  · exact ⟨0, l, L, rfl, rfl, Nat.zero_le _, rfl, hL, hw, rfl⟩
  rintro n' s ⟨k, r, M, rfl, hr, hkl, rfl, hM, hMw, hi⟩
  repeat refine AW.seq ?_
  refine AW.reg ?_
  iterate 1 refine AOL.s1 (h := ?_)
  refine AOL.nil ?_
  refine AW.kq [0, 2, 8, 9, 10, 11] (h := ?_)
  repeat refine AW.seq ?_
  refine AW.cond rfl (fun c_ => ?_) (fun c_ => ?_)
  · obtain ⟨t, r, rfl⟩ := ends_cons hr hkl (by simpa using c_)
    obtain ⟨hlt, hr', ht⟩ := dconsq hr
    have hd : (fm tm l).drop (k * 2) = i t.v :: u t.k :: fm tm r := fm_drop tm_len hr
    have k0 : (0:Int) ≤ k := by omega
    have k1 : (k:Int) < l.length := by omega
    have hiw := incq hlt hll
    obtain ⟨v0, v1, tk⟩ := hl t (List.mem_of_getElem? ht)
    obtain ⟨tv, tk_⟩ := t
    simp only at hd v0 v1 tk
    obtain ⟨m, rfl⟩ := Int.eq_ofNat_of_zero_le v0
    obtain ⟨v, hv, hvw, hvd⟩ := at_nat (V := M) (n := m) (by rw [hM]; exact v1) hMw
    have hn2 : addF by_ (M.set m ((v + tk_ * by_ % 288230376287764481) % 288230376287764481)) r = addF by_ L l := by
      rw [← hi]; simp only [addF, Int.toNat_natCast, hv, Option.getD_some]
    have hfs := fset M m ((v + tk_ * by_ % 288230376287764481) % 288230376287764481)
    have hfl := fml M
    rw [hM] at hfl
    have hms : m + 1 ≤ n := by omega
    have hMs : (M.set m ((v + tk_ * by_ % 288230376287764481) % 288230376287764481)).length = n := by rw [List.length_set, hM]
    have hMw2 := set_w hMw (w64_r (v + tk_ * by_ % 288230376287764481)) m
    generalize hM2 : M.set m ((v + tk_ * by_ % 288230376287764481) % 288230376287764481) = M2 at *
    replace hMs := hid hMs
    replace hM := hid hM
    clear hr ht hi c_ hv
    refine AW.skip ?_
    repeat refine AW.seq ?_
    refine AW.block ?_
    repeat refine AW.seq ?_
    refine AW.reg ?_
    iterate 4 refine AOL.s1 (h := ?_)
    refine AOL.nil ?_
    refine AW.kq [0, 2, 7, 8, 9, 10] (h := ?_)
    repeat refine AW.seq ?_
    refine AW.drw 13 [] (by kernel_rfl) (h := ?_)
    iterate 11 refine ADL.dm 1 (h := ?_)
    refine ADL.call rfl (modular_Mul_c hR tk hb) (by kernel_rfl) rfl rfl (h := ?_)
    refine ADL.call rfl (modular_Add_c hR hvw (w64_r _)) (by kernel_rfl) rfl rfl (h := ?_)
    refine ADL.done hmix rfl rfl (hT := ?_)
    iterate 2 refine AOL.s1 (h := ?_)
    refine AOL.nil ?_
    repeat refine AW.seq ?_
    refine AW.let 1112 (h := ?_)
    refine AW.reg ?_
    iterate 2 refine AOL.s1 (h := ?_)
    refine AOL.nil ?_
    exact ⟨r.length, by simp, k + 1, r, M2, rfl, hr', hlt, rfl, hMs, hMw2, hn2⟩
  · obtain rfl := ends_nil hr (by simpa using c_)
    have hg : M = addF by_ L l := hi
    subst hg
    repeat refine AW.seq ?_
    refine AW.exit ?_
    repeat (first | refine Kseq.ex ?_ | refine Kloop.ex ?_ | refine Kblock.miss (by decide) ?_)
    refine Kblock.hit ?_
    exact ⟨_, [(0, _)], rfl, (fun p_ hp_ => hp_), Tells.old⟩
theorem snd_ok {vars : Int} : ∀ (l : List Tm) (last : Int), sndF vars last l = true → ∀ t ∈ l, last < t.v ∧ t.v < vars ∧ 1 ≤ t.k ∧ t.k < 288230376287764481
  | [], _, _, t, ht => by cases ht
  | t :: l, last, h, t', ht => by
    simp only [sndF] at h
    split at h
    · cases h
    · rename_i hc
      rcases List.mem_cons.1 ht with rfl | ht
      · omega
      · have := snd_ok l t.v h t' ht
        omega
theorem rows_ok {vars : Int} : ∀ (l : List Rw), rowsF vars l = true → ∀ r ∈ l, sndF vars (-1) r.a = true ∧ sndF vars (-1) r.b = true ∧ sndF vars (-1) r.c = true
  | [], _, r, hr => by cases hr
  | q :: l, h, r, hr => by
    simp only [rowsF] at h
    split at h
    · rename_i hq
      rcases List.mem_cons.1 hr with rfl | hr
      · simp only [rowF, Bool.and_eq_true] at hq; exact ⟨hq.1.1, hq.1.2, hq.2⟩
      · exact rows_ok l h r hr
    · cases h
theorem chk_rows {s : Rk} (h : chkF s = true) : rowsF s.v s.l = true := by
  unfold chkF at h
  split at h
  · cases h
  · exact h
theorem chk_in {s : Rk} {n : Nat} (h : chkF s = true) (hn : s.v = n) : ∀ r ∈ s.l, inT n r.a ∧ inT n r.b ∧ inT n r.c := by
  intro r hr
  obtain ⟨h1, h2, h3⟩ := rows_ok _ (chk_rows h) r hr
  refine ⟨fun t ht => ?_, fun t ht => ?_, fun t ht => ?_⟩
  · have := snd_ok _ _ h1 t ht; rw [hn] at this; refine ⟨by omega, by omega, by omega, by omega⟩
  · have := snd_ok _ _ h2 t ht; rw [hn] at this; refine ⟨by omega, by omega, by omega, by omega⟩
  · have := snd_ok _ _ h3 t ht; rw [hn] at this; refine ⟨by omega, by omega, by omega, by omega⟩
def atF (sel : Rw → List Tm) (base : List Int) : Nat → List Rw → List Int → List Int
  | _, [], L => L
  | j, r :: l, L => atF sel base (j + 1) l (addF (base[j]?.getD 0) L (sel r))
def atL (sel : Rw → List Tm) (s : Rk) (x : Int) : List Int := atF sel (lagF (lg s.l.length) x) 0 s.l (List.replicate s.v.toNat 0)
theorem atF_len (sel : Rw → List Tm) (base : List Int) : ∀ (l : List Rw) (j : Nat) (L : List Int), (atF sel base j l L).length = L.length
  | [], j, L => rfl
  | r :: l, j, L => by simp only [atF]; rw [atF_len sel base l, addF_len]
theorem atF_w (sel : Rw → List Tm) (base : List Int) : ∀ (l : List Rw) (j : Nat) (L : List Int), wV L → wV (atF sel base j l L)
  | [], j, L, h => h
  | r :: l, j, L, h => atF_w sel base l _ _ (addF_w _ _ _ h)
theorem lgF_le (n : Nat) : ∀ f k, lgF n f k ≤ k + f
  | 0, k => by simp [lgF]
  | f + 1, k => by
    simp only [lgF]; split
    · omega
    · have := lgF_le n f (k + 1); omega
theorem lgF_two (n : Nat) : ∀ f k, n ≤ 2 ^ (k + f) → n ≤ 2 ^ lgF n f k
  | 0, k, h => by simpa [lgF] using h
  | f + 1, k, h => by
    simp only [lgF]; split
    · assumption
    · exact lgF_two n f (k + 1) (by rw [show k + 1 + f = k + (f + 1) by omega]; exact h)
theorem lgF_le' (n : Nat) : ∀ f k m, n ≤ 2 ^ m → k ≤ m → m ≤ k + f → lgF n f k ≤ m
  | 0, k, m, _, h1, h2 => by simp [lgF]; omega
  | f + 1, k, m, h, h1, h2 => by
    simp only [lgF]; split
    · omega
    · rename_i hc
      have : k ≠ m := by rintro rfl; exact hc h
      exact lgF_le' n f (k + 1) m h (by omega) (by omega)
theorem lg_le {n : Nat} (h : n ≤ 4096) : lg n ≤ 12 ∧ n ≤ 2 ^ lg n := ⟨lgF_le' n 13 0 12 (by simpa using h) (by omega) (by omega), lgF_two n 13 0 (by simp; omega)⟩
theorem rep_w (n : Nat) : wV (List.replicate n 0) := by
  intro v hv; rw [List.eq_of_mem_replicate hv]; decide
set_option maxHeartbeats 16000000 in
theorem qap_At_o {s : Rk} {x : Int} {n : Nat} (hS : Len s) (hx : w64 x) (hc : chkF s = true) (hn : s.v = n) : Fn Try.prog 24 [.agg (rk s), u x] [] (Tells (.tup [.ref 1000 0 n 1, .ref 1001 0 n 1, .ref 1002 0 n 1, u (zF (lg s.l.length) x), nil_]) [(1000, blk (atL Rw.a s x)), (1001, blk (atL Rw.b s x)), (1002, blk (atL Rw.c s x))]) := by
  refine Fn.enter Try.func24 Try.ntmps24 rfl (h := ?_)
  have tf := tfr
  have ot_ : (false || true) = true := rfl
  obtain ⟨sv, sp, sl_⟩ := s
  simp only at hn
  subst hn
  have cs := qap_Size_c hS
  have esz : sizeF ⟨(n:Int), sp, sl_⟩ = [i (lg sl_.length : Nat), nil_] := by simp [sizeF, hc]
  rw [esz] at cs
  have hl4 := chk_len hc
  simp only at hl4
  obtain ⟨k12, kN⟩ := lg_le hl4
  have cl := poly_Lagrange_c (x := x) k12 hx
  have hrows := chk_in (n := n) hc rfl
  simp only at hrows
  obtain ⟨v1, v2, _, _⟩ := chk_v hc
  simp only at v1 v2
  have hlens := hS.2
  simp only at hlens
  have hmk := cmk64 (n := n) (by omega)
  have eA : atL Rw.a ⟨(n:Int), sp, sl_⟩ x = atF Rw.a (lagF (lg sl_.length) x) 0 sl_ (List.replicate n 0) := rfl
  have eB : atL Rw.b ⟨(n:Int), sp, sl_⟩ x = atF Rw.b (lagF (lg sl_.length) x) 0 sl_ (List.replicate n 0) := rfl
  have eC : atL Rw.c ⟨(n:Int), sp, sl_⟩ x = atF Rw.c (lagF (lg sl_.length) x) 0 sl_ (List.replicate n 0) := rfl
  rw [eA, eB, eC]
  clear eA eB eC esz hS hc
  simp only [zF]
  have hbw := lagF_w (lg sl_.length) x
  have hbl := lagF_len (lg sl_.length) x
  have sh := shlu (k := lg sl_.length) (by omega)
  rw [Int.toNat_natCast] at sh
  have kn : ¬ ((lg sl_.length : Nat) : Int) < 0 := by omega
  obtain ⟨t1, t2⟩ := two_le k12
  have hN : w64 ((2 ^ lg sl_.length : Nat) : Int) := by omega
  have p1 := ipow_w (a := x) (e := ((2 ^ lg sl_.length : Nat) : Int)) hx.1 hN
  generalize lg sl_.length = k at *
  generalize 2 ^ k = N at *
  generalize lagF k x = B at *
  replace hbl := hid hbl
  repeat refine AW.seq ?_
  refine AW.reg ?_
  iterate 6 refine AOL.s1 (h := ?_)
  refine AOL.nil ?_
  refine AW.kq [1, 2] (h := ?_)
  repeat refine AW.seq ?_
  refine AW.reg ?_
  iterate 1 refine AOL.s1 (h := ?_)
  refine AOL.callD rfl (cs) (by kernel_rfl) rfl rfl (h := ?_)
  iterate 5 refine AOL.s1 (h := ?_)
  refine AOL.nil ?_
  refine AW.kq [1, 2, 8, 9] (h := ?_)
  repeat refine AW.seq ?_
  refine AW.reg ?_
  iterate 2 refine AOL.s1 (h := ?_)
  refine AOL.nil ?_
  refine AW.kq [1, 2, 8, 9, 19] (h := ?_)
  repeat refine AW.seq ?_
  refine AW.cond rfl (fun c_ => ?_) (fun c_ => ?_)
  · cases c_
  refine AW.skip ?_
  repeat refine AW.seq ?_
  refine AW.reg ?_
  iterate 2 refine AOL.s1 (h := ?_)
  refine AOL.callD rfl (cl) (by kernel_rfl) rfl rfl (h := ?_)
  iterate 5 refine AOL.s1 (h := ?_)
  refine AOL.nil ?_
  refine AW.kq [1, 2, 8, 9, 10] (h := ?_)
  repeat refine AW.seq ?_
  refine AW.reg ?_
  iterate 2 refine AOL.s1 (h := ?_)
  refine AOL.nil ?_
  refine AW.kq [1, 2, 8, 9, 10, 28] (h := ?_)
  repeat refine AW.seq ?_
  refine AW.cond rfl (fun c_ => ?_) (fun c_ => ?_)
  · cases c_
  refine AW.skip ?_
  repeat refine AW.seq ?_
  refine AW.drw 11 [1512, 1560, 1608] (by kernel_rfl) (h := ?_)
  iterate 11 refine ADL.dm 1 (h := ?_)
  refine ADL.done hmix rfl rfl (hT := ?_)
  iterate 1 refine AOL.s1 (h := ?_)
  refine AOL.nil ?_
  refine AW.kq [1, 2, 4, 5, 6, 9, 10] (h := ?_)
  repeat refine AW.seq ?_
  refine AW.reg ?_
  iterate 4 refine AOL.s1 (h := ?_)
  refine AOL.nil ?_
  refine AW.kq [1, 4, 5, 6, 9, 10, 40, 41, 42] (h := ?_)
  repeat refine AW.seq ?_
  refine AW.block ?_
  repeat refine AW.seq ?_
  refine AW.let 1032 (h := ?_)
  clear hmk cl cs
  refine AW.loopK [1, 4, 5, 6, 9, 10, 40, 41, 42] (fun n' s => ∃ (j : Nat) (r : List Rw) (A1 B1 C1 : List Int), s = ⟨80, [(1, u x), (4, .ref 1512 0 n 1), (5, .ref 1560 0 n 1), (6, .ref 1608 0 n 1), (9, i k), (10, ul B), (40, slF rw_ sl_), (41, i sl_.length), (42, i j)], [(1512, blk A1), (1560, blk B1), (1608, blk C1)]⟩ ∧ sl_.drop j = r ∧ j ≤ sl_.length ∧ n' = r.length ∧ A1.length = n ∧ B1.length = n ∧ C1.length = n ∧ wV A1 ∧ wV B1 ∧ wV C1 ∧ atF Rw.a B j r A1 = atF Rw.a B 0 sl_ (List.replicate n 0) ∧ atF Rw.b B j r B1 = atF Rw.b B 0 sl_ (List.replicate n 0) ∧ atF Rw.c B j r C1 = atF Rw.c B 0 sl_ (List.replicate n 0)) (sl_.length) ?_ ?_
  · exact ⟨0, sl_, List.replicate n 0, List.replicate n 0, List.replicate n 0, rfl, rfl, Nat.zero_le _, rfl, List.length_replicate, List.length_replicate, List.length_replicate, rep_w n, rep_w n, rep_w n, rfl, rfl, rfl⟩
  rintro n' s ⟨j, r, A1, B1, C1, rfl, hr, hkl, rfl, la, lb, lc, wa, wb, wc, iA, iB, iC⟩
  repeat refine AW.seq ?_
  refine AW.reg ?_
  iterate 1 refine AOL.s1 (h := ?_)
  refine AOL.nil ?_
  refine AW.kq [1, 4, 5, 6, 9, 10, 40, 41, 42, 43] (h := ?_)
  repeat refine AW.seq ?_
  refine AW.cond rfl (fun e_ => ?_) (fun e_ => ?_)
  · obtain ⟨t, r, rfl⟩ := ends_cons hr hkl (by simpa using e_)
    obtain ⟨hlt, hr', ht⟩ := dconsq hr
    have hd : (fm rw_ sl_).drop (j * 3) = slF tm t.a :: slF tm t.b :: slF tm t.c :: fm rw_ r := fm_drop rw_len hr
    have k0 : (0:Int) ≤ j := by omega
    have k1 : (j:Int) < sl_.length := by omega
    have hiw := incq hlt (by omega)
    obtain ⟨ra, rb, rc⟩ := hrows t (List.mem_of_getElem? ht)
    obtain ⟨ta, tb, tc⟩ := hlens t (List.mem_of_getElem? ht)
    have hbl' : B.length = N := hbl
    obtain ⟨b, hb, hbw', hbd⟩ := at_nat (V := B) (n := j) (by omega) hbw
    have k2 : (j:Int) < B.length := by omega
    clear hbl'
    have iA : atF Rw.a B (j + 1) r (addF b A1 t.a) = atF Rw.a B 0 sl_ (List.replicate n 0) := by rw [← iA]; simp only [atF, hb, Option.getD_some]
    have iB : atF Rw.b B (j + 1) r (addF b B1 t.b) = atF Rw.b B 0 sl_ (List.replicate n 0) := by rw [← iB]; simp only [atF, hb, Option.getD_some]
    have iC : atF Rw.c B (j + 1) r (addF b C1 t.c) = atF Rw.c B 0 sl_ (List.replicate n 0) := by rw [← iC]; simp only [atF, hb, Option.getD_some]
    have n0 : 0 < n := by omega
    have ca := qap_add_c la n0 wa ra ta hbw'
    have cb := qap_add_c lb n0 wb rb tb hbw'
    have cc := qap_add_c lc n0 wc rc tc hbw'
    have la2 := (addF_len b t.a A1).trans la
    have lb2 := (addF_len b t.b B1).trans lb
    have lc2 := (addF_len b t.c C1).trans lc
    have wa2 := addF_w b t.a A1 wa
    have wb2 := addF_w b t.b B1 wb
    have wc2 := addF_w b t.c C1 wc
    generalize addF b A1 t.a = A2 at *
    generalize addF b B1 t.b = B2 at *
    generalize addF b C1 t.c = C2 at *
    have na : (blk A2).cs ≠ [] := fm_ne (by omega)
    have nb : (blk B2).cs ≠ [] := fm_ne (by omega)
    have nc : (blk C2).cs ≠ [] := fm_ne (by omega)
    replace la := hid la
    replace lb := hid lb
    replace lc := hid lc
    replace la2 := hid la2
    replace lb2 := hid lb2
    replace lc2 := hid lc2
    clear hr ht e_ hb
    refine AW.skip ?_
    repeat refine AW.seq ?_
    refine AW.block ?_
    repeat refine AW.seq ?_
    refine AW.reg ?_
    iterate 6 refine AOL.s1 (h := ?_)
    refine AOL.nil ?_
    refine AW.kq [1, 4, 5, 6, 9, 10, 11, 12, 40, 41, 42] (h := ?_)
    repeat refine AW.seq ?_
    refine AW.drw 7 [] (by kernel_rfl) (h := ?_)
    iterate 7 refine ADL.dm 1 (h := ?_)
    refine ADL.done hmix rfl rfl (hT := ?_)
    refine AOL.call1 1512 (ca) rfl (by kernel_rfl) rfl (by intro l_ hl_; simp [labs, labss] at hl_ <;> exact hl_) (by first | rfl | exact frees_fm (fun _ => rfl) _) (by first | rfl | exact frees_fm (fun _ => rfl) _) (by intro l_ hl_; simp [labs, labss] at hl_ <;> exact hl_) (by assumption) rfl (by simp only [St.drop, mapT, mapH, kill, kills, del, St.put, ins, ren, rens, reduceIte, Nat.reduceLT, Nat.reduceEqDiff, Bool.false_eq_true]; exact rfl) ?_
    refine AOL.nil ?_
    refine AW.kq [1, 4, 5, 6, 9, 10, 11, 12, 40, 41, 42] (h := ?_)
    repeat refine AW.seq ?_
    refine AW.drw 7 [] (by kernel_rfl) (h := ?_)
    iterate 7 refine ADL.dm 1 (h := ?_)
    refine ADL.done hmix rfl rfl (hT := ?_)
    refine AOL.call1 1560 (cb) rfl (by kernel_rfl) rfl (by intro l_ hl_; simp [labs, labss] at hl_ <;> exact hl_) (by first | rfl | exact frees_fm (fun _ => rfl) _) (by first | rfl | exact frees_fm (fun _ => rfl) _) (by intro l_ hl_; simp [labs, labss] at hl_ <;> exact hl_) (by assumption) rfl (by simp only [St.drop, mapT, mapH, kill, kills, del, St.put, ins, ren, rens, reduceIte, Nat.reduceLT, Nat.reduceEqDiff, Bool.false_eq_true]; exact rfl) ?_
    refine AOL.nil ?_
    refine AW.kq [1, 4, 5, 6, 9, 10, 11, 12, 40, 41, 42] (h := ?_)
    repeat refine AW.seq ?_
    refine AW.drw 7 [] (by kernel_rfl) (h := ?_)
    iterate 7 refine ADL.dm 1 (h := ?_)
    refine ADL.done hmix rfl rfl (hT := ?_)
    refine AOL.call1 1608 (cc) rfl (by kernel_rfl) rfl (by intro l_ hl_; simp [labs, labss] at hl_ <;> exact hl_) (by first | rfl | exact frees_fm (fun _ => rfl) _) (by first | rfl | exact frees_fm (fun _ => rfl) _) (by intro l_ hl_; simp [labs, labss] at hl_ <;> exact hl_) (by assumption) rfl (by simp only [St.drop, mapT, mapH, kill, kills, del, St.put, ins, ren, rens, reduceIte, Nat.reduceLT, Nat.reduceEqDiff, Bool.false_eq_true]; exact rfl) ?_
    refine AOL.nil ?_
    repeat refine AW.seq ?_
    refine AW.let 1192 (h := ?_)
    refine AW.reg ?_
    iterate 2 refine AOL.s1 (h := ?_)
    refine AOL.nil ?_
    exact ⟨r.length, by simp, j + 1, r, A2, B2, C2, rfl, hr', hlt, rfl, la2, lb2, lc2, wa2, wb2, wc2, iA, iB, iC⟩
  · obtain rfl := ends_nil hr (by simpa using e_)
    have gA : A1 = atF Rw.a B 0 sl_ (List.replicate n 0) := iA
    have gB : B1 = atF Rw.b B 0 sl_ (List.replicate n 0) := iB
    have gC : C1 = atF Rw.c B 0 sl_ (List.replicate n 0) := iC
    rw [← gA, ← gB, ← gC]
    clear gA gB gC iA iB iC hr
    repeat refine AW.seq ?_
    refine AW.exit ?_
    repeat (first | refine Kseq.ex ?_ | refine Kloop.ex ?_ | refine Kblock.miss (by decide) ?_)
    refine Kblock.hit ?_
    refine AW.kq [1, 4, 5, 6, 9] (h := ?_)
    repeat refine AW.seq ?_
    refine AW.reg ?_
    iterate 6 refine AOL.s1 (h := ?_)
    refine AOL.callD rfl (modular_Pow_c hR hx hN) (by kernel_rfl) rfl rfl (h := ?_)
    refine AOL.callD rfl (modular_Sub_c hR p1 (by decide)) (by kernel_rfl) rfl rfl (h := ?_)
    iterate 5 refine AOL.s1 (h := ?_)
    refine AOL.nil ?_
    refine AW.kq [4, 5, 6, 7, 8] (h := ?_)
    repeat refine AW.seq ?_
    skip
    refine AW.ret ?_
    exact ⟨_, [(1512, _), (1560, _), (1608, _)], rfl, (fun p_ hp_ => hp_), Tells.three 1512 1560 1608 (by decide) (by decide) (by decide) (by decide) (by decide) (by decide) (frees_fm (fun _ => rfl) _) (frees_fm (fun _ => rfl) _) (frees_fm (fun _ => rfl) _)⟩
end Go.Proofs.Ytdbpjegocmdplaa.E.M

