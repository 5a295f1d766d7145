/- RankOrder: a system whose rows stand the other way round. -/
import Derived.Test.YtjeafkodcmbabaaDoorRka
import Derived.Test.YtjeafkodcmbabaaDoorProg
import Derived.KernelRfl
set_option linter.unusedVariables false
set_option linter.unusedSimpArgs false
set_option maxRecDepth 10000
open Go Go.Proofs.YtjeafkodcmbabaaDoor.E Go.Proofs
namespace Go.Proofs.YtjeafkodcmbabaaDoor.E.M
theorem rowsF_iff {n : Int} : ∀ {L : List Rw}, rowsF n L = true ↔ ∀ r ∈ L, rowF n r = true
  | [] => by simp [rowsF]
  | r :: l => by
    simp only [rowsF]
    split
    · rename_i h; rw [rowsF_iff]; simp [h]
    · rename_i h; simp [h]
abbrev rowT (V : List Int) (r : Rw) : Prop := valF V 0 r.a * valF V 0 r.b % 288230376287764481 = valF V 0 r.c
theorem rowsH_if (V : List Int) : ∀ (L : List Rw) (k : Nat), (rowsH V k L = nil_ ↔ ∀ r ∈ L, rowT V r) ∧ (rowsH V k L = nil_ ∨ ∃ j : Nat, rowsH V k L = spot j 8)
  | [], k => ⟨by simp [rowsH], .inl rfl⟩
  | r :: l, k => by
    have ih := rowsH_if V l (k + 1)
    simp only [rowsH]
    split
    · rename_i h
      refine ⟨ih.1.trans ⟨fun g s hs => ?_, fun g s hs => g s (List.mem_cons_of_mem _ hs)⟩, ih.2⟩
      rcases List.mem_cons.1 hs with rfl | hs
      · exact h
      · exact g s hs
    · rename_i h
      refine ⟨⟨fun g => by simp at g, fun g => absurd (g r (by simp)) h⟩, .inr ⟨k, rfl⟩⟩
def errK (e : AV) : Prop := (∃ n : Int, e = er n) ∨ ∃ k : Nat, e = spot k 8
theorem holds_kind (s : Rk) (V : List Int) : holdsF s V = nil_ ∨ errK (holdsF s V) := by
  unfold holdsF
  split
  · split
    · exact .inr (.inl ⟨1, rfl⟩)
    · rcases (rowsH_if V s.l 0).2 with h | ⟨j, h⟩
      · exact .inl h
      · exact .inr (.inr ⟨j, h⟩)
  · exact .inr (.inl ⟨3, rfl⟩)
theorem nil_errK {e : AV} (h : e = nil_) (g : errK e) : False := by
  subst h
  rcases g with ⟨n, h⟩ | ⟨n, h⟩ <;> cases h
def turnK (s : Rk) : Rk := ⟨s.v, s.p, s.l.reverse⟩
theorem holds_turn (s : Rk) (V : List Int) : holdsF s V = nil_ ↔ holdsF (turnK s) V = nil_ := by
  have hc : chkF (turnK s) = chkF s := by
    unfold chkF
    have hb : badF (turnK s) = badF s := by unfold badF; rw [show (turnK s).l.length = s.l.length from List.length_reverse]; rfl
    rw [hb]
    split
    · rfl
    · rw [Bool.eq_iff_iff, rowsF_iff, rowsF_iff]
      simp [turnK]
  unfold holdsF
  rw [hc]
  split
  · show (if (V.length : Int) ≠ s.v ∨ V.head? ≠ some 1 ∨ greatF V = true then er 1 else rowsH V 0 s.l) = nil_ ↔ (if (V.length : Int) ≠ s.v ∨ V.head? ≠ some 1 ∨ greatF V = true then er 1 else rowsH V 0 s.l.reverse) = nil_
    split
    · exact Iff.rfl
    · rw [(rowsH_if V _ 0).1, (rowsH_if V _ 0).1]
      simp
  · exact Iff.rfl
theorem two_kinds (s : Rk) (V : List Int) : (holdsF s V = nil_ ∧ holdsF (turnK s) V = nil_) ∨ (errK (holdsF s V) ∧ errK (holdsF (turnK s) V)) := by
  rcases holds_kind s V with h | h
  · exact .inl ⟨h, (holds_turn s V).1 h⟩
  · refine .inr ⟨h, ?_⟩
    rcases holds_kind (turnK s) V with g | g
    · exact (nil_errK ((holds_turn s V).2 g) h).elim
    · exact g
theorem fmw_snoc (V : List Rw) (x : Rw) : fm rw_ (V ++ [x]) = fm rw_ V ++ rw_ x := by rw [fm_app]; simp only [fm, List.append_nil]
theorem decB {k : Nat} (h : k < 1000000000) : IntKind.i64.wrap ((k:Int) - 1) = (k:Int) - 1 := by rw [wrapI_o (by omega) (by omega)]
theorem light_len {s : Rk} (h : lightF s = true) : s.l.length ≤ 200 ∧ Len s := by
  unfold lightF at h
  split at h
  · cases h
  · rename_i hl
    refine ⟨by omega, by omega, fun r hr => ?_⟩
    have := List.all_eq_true.1 h r hr
    simp only [fewF, Bool.and_eq_true, decide_eq_true_eq] at this
    omega
set_option maxHeartbeats 8000000 in
theorem obollaw11_RankOrder_c {s : Rk} {V : List Int} (hW : wR s) (hV : wV V) : Fn Tryd.prog 3 [.agg (rk s), ul V] [] (fun r h_ => r = bo true) := by
  refine Fn.enter Tryd.func3 Tryd.ntmps3 rfl (h := ?_)
  have tf := tfr
  have ot_ : (false || true) = true := rfl
  obtain ⟨sv, sp, L⟩ := s
  have cL := obolref11_Light_c (s := ⟨sv, sp, L⟩)
  have hLL := fun h => light_len (s := ⟨sv, sp, L⟩) h
  replace cL : Fn Tryd.prog 7 [.agg [i sv, i sp, slF rw_ L]] [] (fun r h_ => r = bo (lightF ⟨sv, sp, L⟩)) := cL
  generalize lightF ⟨sv, sp, L⟩ = lt at *
  repeat refine AW.seq ?_
  refine AW.reg ?_
  iterate 2 refine AOL.s1 (h := ?_)
  refine AOL.nil ?_
  refine AW.kq [1, 2] (h := ?_)
  repeat refine AW.seq ?_
  refine AW.reg ?_
  refine AOL.callD rfl (obollaw11_up_c) (by kernel_rfl) rfl rfl (h := ?_)
  iterate 1 refine AOL.s1 (h := ?_)
  refine AOL.nil ?_
  refine AW.kq [1, 2, 5] (h := ?_)
  repeat refine AW.seq ?_
  refine AW.reg ?_
  iterate 1 refine AOL.s1 (h := ?_)
  refine AOL.callD rfl (cL) (by kernel_rfl) rfl rfl (h := ?_)
  iterate 1 refine AOL.s1 (h := ?_)
  refine AOL.nil ?_
  refine AW.kq [1, 2, 5, 6] (h := ?_)
  repeat refine AW.seq ?_
  refine AW.reg ?_
  iterate 3 refine AOL.s1 (h := ?_)
  refine AOL.kq [1, 2, 5, 16] (h := ?_)
  refine AOL.or 16 20 (os' := ?_) (x := ?_) (h1 := ?_) (h0 := ?_) (h := ?_)
  rotate_left 2
  iterate 2
    · intro hb_ K' hK; (iterate 4 refine AOL.s1 (h := ?_)); refine AOL.kq [1, 2, 5, 20] (h := ?_); exact hK
  refine AOL.nil ?_
  refine AW.kq [1, 2, 5, 20] (h := ?_)
  repeat refine AW.seq ?_
  refine AW.cond rfl (fun c_ => ?_) (fun c_ => ?_)
  · repeat refine AW.seq ?_
    refine AW.reg ?_
    iterate 2 refine AOL.s1 (h := ?_)
    refine AOL.nil ?_
    refine AW.kq [4] (h := ?_)
    repeat refine AW.seq ?_
    refine AW.ret ?_
    refine ⟨_, [], rfl, HOk.nil _, ?_⟩
    rfl
  have hlt : lt = true ∧ V.length ≤ 5000 := by
    cases lt
    · simp at c_
    · refine ⟨rfl, ?_⟩
      simp at c_; omega
  obtain ⟨rfl, hl5⟩ := hlt
  obtain ⟨l200, hLn⟩ := hLL rfl
  replace l200 : L.length ≤ 200 := l200
  have cH := rank_Holds_c (s := ⟨sv, sp, L⟩) (V := V) hLn hW hV (by omega)
  have cG := rank_Holds_c (s := turnK ⟨sv, sp, L⟩) (V := V) ⟨by simp only [turnK, List.length_reverse]; omega, fun r hr => hLn.2 r (by simpa [turnK] using hr)⟩ (fun r hr => hW r (by simpa [turnK] using hr)) hV (by omega)
  have hK := two_kinds ⟨sv, sp, L⟩ V
  replace cH : Fn Tryd.prog 8 [.agg [i sv, i sp, slF rw_ L], ul V] [] (fun r h_ => r = holdsF ⟨sv, sp, L⟩ V) := cH
  replace cG : Fn Tryd.prog 8 [.agg [i sv, i sp, slF rw_ L.reverse], ul V] [] (fun r h_ => r = holdsF (turnK ⟨sv, sp, L⟩) V) := cG
  generalize holdsF ⟨sv, sp, L⟩ V = e at *
  generalize holdsF (turnK ⟨sv, sp, L⟩) V = f at *
  clear c_ hLL cL hW hV hLn
  have hw0 := decB (k := L.length) (by omega)
  refine AW.skip ?_
  repeat refine AW.seq ?_
  refine AW.reg ?_
  iterate 3 refine AOL.s1 (h := ?_)
  refine AOL.nil ?_
  refine AW.kq [1, 2, 5, 7] (h := ?_)
  repeat refine AW.seq ?_
  refine AW.reg ?_
  iterate 2 refine AOL.s1 (h := ?_)
  refine AOL.nil ?_
  refine AW.kq [1, 2, 5, 7] (h := ?_)
  repeat refine AW.seq ?_
  refine AW.reg ?_
  iterate 5 refine AOL.s1 (h := ?_)
  refine AOL.nil ?_
  refine AW.kq [1, 2, 5, 7, 8] (h := ?_)
  repeat refine AW.seq ?_
  refine AW.block ?_
  repeat refine AW.seq ?_
  refine AW.blank 9001 30 (h := ?_)
  refine AW.wkh 1112 (cs' := [i sv, i sp, .ref 9001 0 0 3]) rfl (Wks.cons (Wk.refl _) (Wks.cons (Wk.refl _) (Wks.cons (Wk.ref0 9001 3) Wks.nil))) (fun h => by cases h) (h := ?_)
  refine AW.loopK [1, 2, 5, 7, 8] (fun n s => ∃ (k : Nat) (r : List Rw), s = ⟨56, [(1, ul V), (2, .ptr 1032 0), (5, bo true), (7, .ptr 1112 0), (8, i ((k:Int) - 1))], [(1032, ⟨24, true, [i sv, i sp, slF rw_ L]⟩), (1112, ⟨24, true, [i sv, i sp, .ref 9001 0 r.length 3]⟩), (9001, ⟨30, false, fm rw_ r⟩)]⟩ ∧ k ≤ L.length ∧ n = k ∧ id (r = (L.drop k).reverse)) (L.length) ?_ ?_
  · exact ⟨L.length, [], rfl, Nat.le_refl _, rfl, by show _ = _; simp⟩
  rintro n s ⟨k, r, rfl, hkl, rfl, hM⟩
  repeat refine AW.seq ?_
  refine AW.reg ?_
  iterate 2 refine AOL.s1 (h := ?_)
  refine AOL.nil ?_
  refine AW.kq [1, 2, 5, 7, 8, 29] (h := ?_)
  repeat refine AW.seq ?_
  refine AW.cond rfl (fun c_ => ?_) (fun c_ => ?_)
  · obtain ⟨j, rfl⟩ : ∃ j, n = j + 1 := ⟨n - 1, by simp at c_; omega⟩
    have h1 : j < L.length := by omega
    have ej : ((j + 1 : Nat) : Int) - 1 = (j : Int) := by omega
    have k0 : (0:Int) ≤ j := by omega
    have k1 : (j:Int) < L.length := by omega
    have hw := decB (k := j) (by omega)
    have hd : (fm rw_ L).drop (j * 3) = slF tm L[j].a :: slF tm L[j].b :: slF tm L[j].c :: fm rw_ (L.drop (j + 1)) := fm_at rw_len h1
    have hrl : r.length = L.length - (j + 1) := by rw [show r = _ from hM, List.length_reverse, List.length_drop]
    have hrn : id (r ++ [L[j]] = (L.drop j).reverse) := by show _ = _; rw [show r = _ from hM, List.drop_eq_getElem_cons h1, List.reverse_cons]
    have lc : (fm rw_ r).length = r.length * 3 := by rw [fm_len rw_len]
    have a1 : (r.length + 1) * 72 ≤ 140737488355328 := by omega
    have a2 : r.length + 1 ≤ 4611686018427387904 := by omega
    have a3 : r.length ≤ 4611686018427387903 := by omega
    have hq : fm rw_ (r ++ [L[j]]) = fm rw_ r ++ [slF tm L[j].a, slF tm L[j].b, slF tm L[j].c] := fmw_snoc _ _
    clear hM c_ hkl hrl
    rw [ej]
    generalize L[j] = x at *
    obtain ⟨xa, xb, xc⟩ := x
    refine AW.skip ?_
    repeat refine AW.seq ?_
    refine AW.block ?_
    repeat refine AW.seq ?_
    refine AW.da 9 (by kernel_rfl) (h := ?_)
    iterate 8 refine ADP.d1 (h := ?_)
    refine ADP.app 9001 (h := ?_)
    refine ADP.done hmix (by kernel_rfl) rfl (hT := ?_)
    iterate 2 refine AOL.s1 (h := ?_)
    refine AOL.nil ?_
    repeat refine AW.seq ?_
    skip
    refine AW.reg ?_
    iterate 3 refine AOL.s1 (h := ?_)
    refine AOL.nil ?_
    exact ⟨j, by omega, j, r ++ [⟨xa, xb, xc⟩], by rw [hq, List.length_append]; rfl, by omega, rfl, hrn⟩
  · obtain rfl : n = 0 := by simp at c_; omega
    rw [List.drop_zero] at hM
    obtain rfl : r = L.reverse := hM
    refine AW.fz 9001 rfl (fun h => by cases h) (h := ?_)
    rw [show AV.sl L.reverse.length (sub 0 (L.reverse.length * 3) (fm rw_ L.reverse)) = slF rw_ L.reverse by rw [sub_all (by rw [fm_len rw_len]; exact Nat.le_refl _)]]
    repeat refine AW.seq ?_
    refine AW.exit ?_
    repeat (first | refine Kseq.ex ?_ | refine Kloop.ex ?_ | refine Kblock.miss (by decide) ?_)
    refine Kblock.hit ?_
    refine AW.kq [1, 2, 5, 7] (h := ?_)
    repeat refine AW.seq ?_
    clear c_ hw0
    rcases hK with ⟨rfl, rfl⟩ | ⟨⟨n1, rfl⟩ | ⟨n1, rfl⟩, ⟨n2, rfl⟩ | ⟨n2, rfl⟩⟩
    iterate 5
      · refine AW.reg ?_
        iterate 2 refine AOL.s1 (h := ?_)
        refine AOL.callD rfl (cH) (by kernel_rfl) rfl rfl (h := ?_)
        iterate 1 refine AOL.s1 (h := ?_)
        refine AOL.nil ?_
        refine AW.kq [1, 5, 7, 9] (h := ?_)
        repeat refine AW.seq ?_
        refine AW.reg ?_
        iterate 2 refine AOL.s1 (h := ?_)
        refine AOL.callD rfl (cG) (by kernel_rfl) rfl rfl (h := ?_)
        iterate 1 refine AOL.s1 (h := ?_)
        refine AOL.nil ?_
        refine AW.kq [5, 9, 10] (h := ?_)
        repeat refine AW.seq ?_
        refine AW.drw 6 [] (by kernel_rfl) (h := ?_)
        iterate 6 refine ADL.dm 1 (h := ?_)
        refine ADL.done hmix rfl rfl (hT := ?_)
        refine AOL.kq [49, 51, 53] (h := ?_)
        iterate 3 refine AOL.s1 (h := ?_)
        refine AOL.nil ?_
        refine AW.kq [4] (h := ?_)
        repeat refine AW.seq ?_
        refine AW.ret ?_
        refine ⟨_, [], rfl, HOk.nil _, ?_⟩
        rfl
end Go.Proofs.YtjeafkodcmbabaaDoor.E.M

