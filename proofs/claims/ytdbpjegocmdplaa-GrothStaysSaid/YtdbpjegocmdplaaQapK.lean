/- What is left of values that hold: a contract over E. -/
import Derived.Test.YtdbpjegocmdplaaQapJ
import Derived.Test.YtdbpjegocmdplaaProg
import Derived.KernelRfl
set_option linter.unusedVariables false
set_option linter.unusedSimpArgs false
set_option maxRecDepth 10000
open Go Go.Proofs.Ytdbpjegocmdplaa.E Go.Proofs
namespace Go.Proofs.Ytdbpjegocmdplaa.E.M
abbrev TFq : Prop := tSz Try.prog 102 = some 3 ∧
    tAgg Try.prog 102 = some true ∧
    tBytes Try.prog 102 = some 72 ∧
    tZero Try.prog 102 = some [(.slice none 0 0), (.slice none 0 0), (.slice none 0 0)] ∧
    tSlice Try.prog 102 = none ∧
    tArray Try.prog 102 = some (3, 28) ∧
    Try.prog.underlying 102 = some (.array 3 28) ∧
    tIface Try.prog 102 = some false ∧
    tCls Try.prog 102 = .other ∧
    (∀ ps, aBuild Try.prog 102 ps = (aFill (fun i => some (i * 1, 1)) [.val (.slice none 0 0), .val (.slice none 0 0), .val (.slice none 0 0)] ps).map .agg)
theorem tfq : TFq :=
  ⟨rfl, rfl, rfl, rfl, rfl, rfl, rfl, rfl, rfl, fun _ => rfl⟩

def colF (V : List Int) (sel : Rw → List Tm) (l : List Rw) (j : Nat) : Int := valF V 0 (sel (l[j]?.getD default))
def colL (V : List Int) (sel : Rw → List Tm) (N : Nat) (l : List Rw) : List Int := upL (colF V sel l) N l.length
def subF : Nat → List Int → List Int → List Int
  | _, [], P => P
  | j, c :: C, P => subF (j + 1) C ((if j = P.length then P ++ [0] else P).set j ((((if j = P.length then P ++ [0] else P)[j]?.getD 0) - c) % 288230376287764481))
theorem subF_len : ∀ (C : List Int) (j : Nat) (P : List Int), j ≤ P.length → (subF j C P).length = max P.length (j + C.length)
  | [], j, P, h => by simp [subF]; omega
  | c :: C, j, P, h => by
    simp only [subF]
    rw [subF_len C (j + 1) _ (by rw [List.length_set]; split <;> (try simp only [List.length_append, List.length_singleton]) <;> omega)]
    rw [List.length_set, List.length_cons]
    split
    · rw [List.length_append, List.length_singleton]; omega
    · omega
theorem app_w {L M : List Int} (h : wV L) (k : wV M) : wV (L ++ M) := by
  intro v hv; rcases List.mem_append.1 hv with hv | hv
  · exact h v hv
  · exact k v hv
theorem subF_w : ∀ (C : List Int) (j : Nat) {P : List Int}, wV P → wV (subF j C P)
  | [], j, P, h => h
  | c :: C, j, P, h => by
    simp only [subF]
    refine subF_w C (j + 1) (set_w ?_ (w64_r _) j)
    split
    · exact app_w h (by intro v hv; simp at hv; subst hv; decide)
    · exact h
def quoP (s : Rk) (V : List Int) : List Int := subF 0 (invF (lg s.l.length) (colL V Rw.c (2 ^ lg s.l.length) s.l)) (shortL (mulL (invF (lg s.l.length) (colL V Rw.a (2 ^ lg s.l.length) s.l)) (invF (lg s.l.length) (colL V Rw.b (2 ^ lg s.l.length) s.l))))
theorem colF_w (V : List Int) (sel : Rw → List Tm) (l : List Rw) (j : Nat) : w64 (colF V sel l j) := valF_w _ (by decide)
theorem upL_w {f : Nat → Int} (hf : ∀ j, w64 (f j)) (n j : Nat) : wV (upL f n j) := by
  intro v hv
  unfold upL at hv
  rcases List.mem_append.1 hv with hv | hv
  · obtain ⟨a, _, rfl⟩ := List.mem_map.1 hv; exact hf a
  · exact rep_w _ v hv
set_option maxHeartbeats 2000000 in
theorem qap_Quotient_e1 {s : Rk} {V : List Int} (hS : Len s) (hc : chkF s = false) : Fn Try.prog 30 [.agg (rk s), ul V] [] (fun r _ => r = .tup [.val (.slice none 0 0), er 3]) := by
  have cs := qap_Size_c hS
  have esz : sizeF s = [i 0, er 3] := by simp [sizeF, hc]
  rw [esz] at cs
  refine Fn.enter Try.func30 Try.ntmps30 rfl (h := ?_)
  have tf := tfr
  repeat refine AW.seq ?_
  refine AW.reg ?_
  iterate 3 refine AOL.s1 (h := ?_)
  refine AOL.nil ?_
  refine AW.kq [1, 2] (h := ?_)
  repeat refine AW.seq ?_
  refine AW.reg ?_
  iterate 1 refine AOL.s1 (h := ?_)
  refine AOL.callD rfl (cs) (by kernel_rfl) rfl rfl (h := ?_)
  iterate 5 refine AOL.s1 (h := ?_)
  refine AOL.nil ?_
  refine AW.kq [1, 2, 6, 7] (h := ?_)
  repeat refine AW.seq ?_
  refine AW.reg ?_
  iterate 2 refine AOL.s1 (h := ?_)
  refine AOL.nil ?_
  refine AW.kq [1, 2, 6, 7, 23] (h := ?_)
  repeat refine AW.seq ?_
  refine AW.cond rfl (fun c_ => ?_) (fun c_ => ?_)
  · repeat refine AW.seq ?_
    refine AW.reg ?_
    iterate 3 refine AOL.s1 (h := ?_)
    refine AOL.nil ?_
    refine AW.kq [4, 5] (h := ?_)
    repeat refine AW.seq ?_
    refine AW.ret ?_
    refine ⟨_, [], rfl, HOk.nil _, ?_⟩
    rfl
  cases c_
set_option maxHeartbeats 2000000 in
theorem qap_Quotient_e2 {s : Rk} {V : List Int} {e : AV} (hS : Len s) (hc : chkF s = true) (hW : wR s) (hV : wV V) (lV : V.length < 1000000000) (he : holdsF s V = e) (hk : (∃ n, e = er n) ∨ ∃ k, e = spot k 8) : Fn Try.prog 30 [.agg (rk s), ul V] [] (fun r _ => r = .tup [.val (.slice none 0 0), e]) := by
  have cs := qap_Size_c hS
  have esz : sizeF s = [i (lg s.l.length : Nat), nil_] := by simp [sizeF, hc]
  rw [esz] at cs
  have ch := rank_Holds_c hS hW hV lV
  rw [he] at ch
  clear esz he
  rcases hk with ⟨n, rfl⟩ | ⟨n, rfl⟩
  iterate 2
    · refine Fn.enter Try.func30 Try.ntmps30 rfl (h := ?_)
      have tf := tfr
      have ot_ : (false || true) = true := rfl
      repeat refine AW.seq ?_
      refine AW.reg ?_
      iterate 3 refine AOL.s1 (h := ?_)
      refine AOL.nil ?_
      refine AW.kq [1, 2] (h := ?_)
      repeat refine AW.seq ?_
      refine AW.reg ?_
      iterate 1 refine AOL.s1 (h := ?_)
      refine AOL.callD rfl (cs) (by kernel_rfl) rfl rfl (h := ?_)
      iterate 5 refine AOL.s1 (h := ?_)
      refine AOL.nil ?_
      refine AW.kq [1, 2, 6, 7] (h := ?_)
      repeat refine AW.seq ?_
      refine AW.reg ?_
      iterate 2 refine AOL.s1 (h := ?_)
      refine AOL.nil ?_
      refine AW.kq [1, 2, 6, 7, 23] (h := ?_)
      repeat refine AW.seq ?_
      refine AW.cond rfl (fun c_ => ?_) (fun c_ => ?_)
      · cases c_
      refine AW.skip ?_
      repeat refine AW.seq ?_
      refine AW.reg ?_
      iterate 2 refine AOL.s1 (h := ?_)
      refine AOL.callD rfl (ch) (by kernel_rfl) rfl rfl (h := ?_)
      iterate 1 refine AOL.s1 (h := ?_)
      refine AOL.nil ?_
      refine AW.kq [1, 2, 6, 8] (h := ?_)
      repeat refine AW.seq ?_
      refine AW.reg ?_
      iterate 2 refine AOL.s1 (h := ?_)
      refine AOL.nil ?_
      refine AW.kq [1, 2, 6, 8, 29] (h := ?_)
      repeat refine AW.seq ?_
      refine AW.cond rfl (fun d_ => ?_) (fun d_ => ?_)
      · repeat refine AW.seq ?_
        refine AW.reg ?_
        iterate 3 refine AOL.s1 (h := ?_)
        refine AOL.nil ?_
        refine AW.kq [4, 5] (h := ?_)
        repeat refine AW.seq ?_
        refine AW.ret ?_
        refine ⟨_, [], rfl, HOk.nil _, ?_⟩
        rfl
      cases d_
set_option maxHeartbeats 64000000 in
theorem qap_Quotient_o {s : Rk} {V : List Int} {k N : Nat} (hS : Len s) (hc : chkF s = true) (hW : wR s) (hV : wV V) (lV : V.length < 1000000000) (he : holdsF s V = nil_) (hk : lg s.l.length = k) (hN : 2 ^ k = N) :
    Fn Try.prog 30 [.agg (rk s), ul V] [] (fun r h_ => (vanOk N (quoP s V) = false ∧ r = .tup [.val (.slice none 0 0), er 8]) ∨ (vanOk N (quoP s V) = true ∧ (quoP s V).length = N ∧ r = .tup [ul [], nil_]) ∨ (vanOk N (quoP s V) = true ∧ N < (quoP s V).length ∧ Tells (.tup [.ref 1000 0 (vanV N (quoP s V)).length 1, nil_]) [(1000, blk (vanR N (quoP s V)).2)] r h_)) := by
  have cs := qap_Size_c hS
  have esz : sizeF s = [i (lg s.l.length : Nat), nil_] := by simp [sizeF, hc]
  rw [esz] at cs
  have ch := rank_Holds_c hS hW hV lV
  rw [he] at ch
  obtain ⟨k12, kN⟩ := lg_le (chk_len hc)
  rw [hk] at k12 kN cs
  have eP : quoP s V = subF 0 (invF k (colL V Rw.c N s.l)) (shortL (mulL (invF k (colL V Rw.a N s.l)) (invF k (colL V Rw.b N s.l)))) := by unfold quoP; rw [hk, hN]
  obtain ⟨t1, t2⟩ := two_le k12
  have kn : ¬ (k:Int) < 0 := by omega
  have shi := shlk (k := k) (by omega)
  rw [Int.toNat_natCast] at shi
  rw [hN] at t1 t2 shi kN
  clear esz he hc
  obtain ⟨sv, sp, sl_⟩ := s
  have hlens := hS.2
  have hws : ∀ r ∈ sl_, wT r.a ∧ wT r.b ∧ wT r.c := hW
  simp only at hlens hk kN eP
  have hmk := mk64 (n := N) (by omega)
  clear hS hW hk
  refine Fn.enter Try.func30 Try.ntmps30 rfl (h := ?_)
  have tf := tfr
  have tfq := tfq
  have ot_ : (false || true) = true := rfl
  have i03 : decide ((0:Int) < 3) = true := rfl
  have i13 : decide ((1:Int) < 3) = true := rfl
  have i23 : decide ((2:Int) < 3) = true := rfl
  have i33 : decide ((3:Int) < 3) = false := rfl
  have q0 : (0:Int) ≤ 0 := by decide
  have q1 : (0:Int) ≤ 1 := by decide
  have q2 : (0:Int) ≤ 2 := by decide
  have x0 : (0:Int) < ((3:Nat):Int) := by decide
  have x1 : (1:Int) < ((3:Nat):Int) := by decide
  have x2 : (2:Int) < ((3:Nat):Int) := by decide
  have n0 : Int.toNat 0 = 0 := rfl
  have n1 : Int.toNat 1 = 1 := rfl
  have n2 : Int.toNat 2 = 2 := rfl
  have p1 : IntKind.i64.wrap (0 + 1) = 1 := by decide
  have p2 : IntKind.i64.wrap (1 + 1) = 2 := by decide
  have p3 : IntKind.i64.wrap (2 + 1) = 3 := by decide
  have y0 : (0:Nat) + 1 ≤ 3 := by decide
  have y1 : (1:Nat) + 1 ≤ 3 := by decide
  have y2 : (2:Nat) + 1 ≤ 3 := by decide
  repeat refine AW.seq ?_
  refine AW.reg ?_
  iterate 3 refine AOL.s1 (h := ?_)
  refine AOL.nil ?_
  refine AW.kq [1, 2] (h := ?_)
  repeat refine AW.seq ?_
  refine AW.reg ?_
  iterate 1 refine AOL.s1 (h := ?_)
  refine AOL.callD rfl (cs) (by kernel_rfl) rfl rfl (h := ?_)
  iterate 5 refine AOL.s1 (h := ?_)
  refine AOL.nil ?_
  refine AW.kq [1, 2, 6, 7] (h := ?_)
  repeat refine AW.seq ?_
  refine AW.reg ?_
  iterate 2 refine AOL.s1 (h := ?_)
  refine AOL.nil ?_
  refine AW.kq [1, 2, 6, 7, 23] (h := ?_)
  repeat refine AW.seq ?_
  refine AW.cond rfl (fun c_ => ?_) (fun c_ => ?_)
  · cases c_
  refine AW.skip ?_
  repeat refine AW.seq ?_
  refine AW.reg ?_
  iterate 2 refine AOL.s1 (h := ?_)
  refine AOL.callD rfl (ch) (by kernel_rfl) rfl rfl (h := ?_)
  iterate 1 refine AOL.s1 (h := ?_)
  refine AOL.nil ?_
  refine AW.kq [1, 2, 6, 8] (h := ?_)
  repeat refine AW.seq ?_
  refine AW.reg ?_
  iterate 2 refine AOL.s1 (h := ?_)
  refine AOL.nil ?_
  refine AW.kq [1, 2, 6, 8, 29] (h := ?_)
  repeat refine AW.seq ?_
  refine AW.cond rfl (fun d_ => ?_) (fun d_ => ?_)
  · cases d_
  clear cs ch
  refine AW.skip ?_
  repeat refine AW.seq ?_
  refine AW.reg ?_
  iterate 1 refine AOL.s1 (h := ?_)
  refine AOL.nil ?_
  refine AW.kq [1, 2, 6, 9] (h := ?_)
  repeat refine AW.seq ?_
  refine AW.reg ?_
  iterate 1 refine AOL.s1 (h := ?_)
  refine AOL.nil ?_
  refine AW.kq [1, 2, 6, 9, 31] (h := ?_)
  repeat refine AW.seq ?_
  refine AW.block ?_
  repeat refine AW.seq ?_
  refine AW.rounds ?_
  refine AWin.next [1, 2, 6, 9, 31] (h := ?_)
  repeat refine AW.seq ?_
  refine AW.reg ?_
  iterate 1 refine AOL.s1 (h := ?_)
  refine AOL.nil ?_
  refine AW.kq [1, 2, 6, 9, 31, 32] (h := ?_)
  repeat refine AW.seq ?_
  refine AW.cond rfl (fun c_ => ?_) (fun c_ => ?_)
  rotate_left
  · cases c_
  refine AW.skip ?_
  repeat refine AW.seq ?_
  refine AW.block ?_
  repeat refine AW.seq ?_
  refine AW.reg ?_
  iterate 2 refine AOL.s1 (h := ?_)
  refine AOL.nil ?_
  refine AW.kq [1, 2, 6, 9, 10, 31] (h := ?_)
  repeat refine AW.seq ?_
  refine AW.reg ?_
  iterate 6 refine AOL.s1 (h := ?_)
  refine AOL.nil ?_
  refine AW.mv 1592 3000 (h := ?_)
  repeat refine AW.seq ?_
  refine AW.reg ?_
  iterate 2 refine AOL.s1 (h := ?_)
  refine AOL.nil ?_
  refine AWin.next [1, 2, 6, 9, 31] (h := ?_)
  repeat refine AW.seq ?_
  refine AW.reg ?_
  iterate 1 refine AOL.s1 (h := ?_)
  refine AOL.nil ?_
  refine AW.kq [1, 2, 6, 9, 31, 32] (h := ?_)
  repeat refine AW.seq ?_
  refine AW.cond rfl (fun c_ => ?_) (fun c_ => ?_)
  rotate_left
  · cases c_
  refine AW.skip ?_
  repeat refine AW.seq ?_
  refine AW.block ?_
  repeat refine AW.seq ?_
  refine AW.reg ?_
  iterate 2 refine AOL.s1 (h := ?_)
  refine AOL.nil ?_
  refine AW.kq [1, 2, 6, 9, 10, 31] (h := ?_)
  repeat refine AW.seq ?_
  refine AW.reg ?_
  iterate 6 refine AOL.s1 (h := ?_)
  refine AOL.nil ?_
  refine AW.mv 1592 3001 (h := ?_)
  repeat refine AW.seq ?_
  refine AW.reg ?_
  iterate 2 refine AOL.s1 (h := ?_)
  refine AOL.nil ?_
  refine AWin.next [1, 2, 6, 9, 31] (h := ?_)
  repeat refine AW.seq ?_
  refine AW.reg ?_
  iterate 1 refine AOL.s1 (h := ?_)
  refine AOL.nil ?_
  refine AW.kq [1, 2, 6, 9, 31, 32] (h := ?_)
  repeat refine AW.seq ?_
  refine AW.cond rfl (fun c_ => ?_) (fun c_ => ?_)
  rotate_left
  · cases c_
  refine AW.skip ?_
  repeat refine AW.seq ?_
  refine AW.block ?_
  repeat refine AW.seq ?_
  refine AW.reg ?_
  iterate 2 refine AOL.s1 (h := ?_)
  refine AOL.nil ?_
  refine AW.kq [1, 2, 6, 9, 10, 31] (h := ?_)
  repeat refine AW.seq ?_
  refine AW.reg ?_
  iterate 6 refine AOL.s1 (h := ?_)
  refine AOL.nil ?_
  refine AW.mv 1592 3002 (h := ?_)
  repeat refine AW.seq ?_
  refine AW.reg ?_
  iterate 2 refine AOL.s1 (h := ?_)
  refine AOL.nil ?_
  refine AWin.next [1, 2, 6, 9, 31] (h := ?_)
  repeat refine AW.seq ?_
  refine AW.reg ?_
  iterate 1 refine AOL.s1 (h := ?_)
  refine AOL.nil ?_
  refine AW.kq [1, 2, 6, 9, 31, 32] (h := ?_)
  repeat refine AW.seq ?_
  refine AW.cond rfl (fun c_ => ?_) (fun c_ => ?_)
  · cases c_
  repeat refine AW.seq ?_
  refine AW.exit ?_
  repeat (first | refine Kseq.ex ?_ | refine Kloop.ex ?_ | refine Kblock.miss (by decide) ?_)
  refine Kblock.hit ?_
  refine AW.kq [1, 2, 6, 9] (h := ?_)
  clear hmk
  repeat refine AW.seq ?_
  refine AW.reg ?_
  iterate 4 refine AOL.s1 (h := ?_)
  refine AOL.nil ?_
  refine AW.kq [1, 6, 9, 41, 42, 43] (h := ?_)
  refine AW.let 1032 (h := ?_)
  have wz := rep_w N
  have hsl4 : sl_.length ≤ 4096 := by omega
  repeat refine AW.seq ?_
  refine AW.block ?_
  repeat refine AW.seq ?_
  refine AW.loopK [1, 6, 9, 41, 42, 43] (fun n' s => ∃ (j : Nat) (r : List Rw), s = ⟨125, [(1, ul V), (6, i k), (9, .ptr 1144 0), (41, slF rw_ sl_), (42, i sl_.length), (43, i j)], [(1144, ⟨102, true, [.ref 3000 0 N 1, .ref 3001 0 N 1, .ref 3002 0 N 1]⟩), (3002, blk (upL (colF V Rw.c sl_) N j)), (3001, blk (upL (colF V Rw.b sl_) N j)), (3000, blk (upL (colF V Rw.a sl_) N j))]⟩ ∧ sl_.drop j = r ∧ j ≤ sl_.length ∧ n' = r.length) sl_.length ?_ ?_
  · exact ⟨0, sl_, by rw [upL_zero, upL_zero, upL_zero]; rfl, rfl, Nat.zero_le _, rfl⟩
  rintro n' s ⟨j, r, rfl, hr, hkl, rfl⟩
  repeat refine AW.seq ?_
  refine AW.reg ?_
  iterate 1 refine AOL.s1 (h := ?_)
  refine AOL.nil ?_
  refine AW.kq [1, 6, 9, 41, 42, 43, 44] (h := ?_)
  repeat refine AW.seq ?_
  refine AW.cond rfl (fun e_ => ?_) (fun e_ => ?_)
  · obtain ⟨t, r, rfl⟩ := ends_cons hr hkl (by simpa using e_)
    obtain ⟨hlt, hr', ht⟩ := dconsq hr
    have hd : (fm rw_ sl_).drop (j * 3) = slF tm t.a :: slF tm t.b :: slF tm t.c :: fm rw_ r := fm_drop rw_len hr
    have k0 : (0:Int) ≤ j := by omega
    have k1 : (j:Int) < sl_.length := by omega
    have k2 : (j:Int) < (N:Int) := by omega
    have hiw := incq hlt (by omega)
    obtain ⟨la, lb, lc⟩ := hlens t (List.mem_of_getElem? ht)
    obtain ⟨wa, wb, wc⟩ := hws t (List.mem_of_getElem? ht)
    have ca := rank_Value_c la hV wa
    have cb := rank_Value_c lb hV wb
    have cc := rank_Value_c lc hV wc
    have hjN : j < N := by omega
    have ea : colF V Rw.a sl_ j = valF V 0 t.a := by simp only [colF, ht, Option.getD_some]
    have eb : colF V Rw.b sl_ j = valF V 0 t.b := by simp only [colF, ht, Option.getD_some]
    have ec : colF V Rw.c sl_ j = valF V 0 t.c := by simp only [colF, ht, Option.getD_some]
    have sa := upL_set (colF V Rw.a sl_) hjN
    have sb := upL_set (colF V Rw.b sl_) hjN
    have sc := upL_set (colF V Rw.c sl_) hjN
    have ga := upL_len (colF V Rw.a sl_) (Nat.le_of_lt hjN)
    have gb := upL_len (colF V Rw.b sl_) (Nat.le_of_lt hjN)
    have gc := upL_len (colF V Rw.c sl_) (Nat.le_of_lt hjN)
    rw [ea] at sa
    rw [eb] at sb
    rw [ec] at sc
    have fa := fset (upL (colF V Rw.a sl_) N j) j (valF V 0 t.a)
    have fb := fset (upL (colF V Rw.b sl_) N j) j (valF V 0 t.b)
    have fc := fset (upL (colF V Rw.c sl_) N j) j (valF V 0 t.c)
    rw [sa] at fa
    rw [sb] at fb
    rw [sc] at fc
    have ma := fml (upL (colF V Rw.a sl_) N j)
    have mb := fml (upL (colF V Rw.b sl_) N j)
    have mc := fml (upL (colF V Rw.c sl_) N j)
    rw [ga] at ma
    rw [gb] at mb
    rw [gc] at mc
    have jN1 : j + 1 ≤ N := hjN
    clear ea eb ec sa sb sc ga gb gc hr ht e_ la lb lc wa wb wc hlens hws hV
    generalize valF V 0 t.a = va at *
    generalize valF V 0 t.b = vb at *
    generalize valF V 0 t.c = vc at *
    generalize hA1 : upL (colF V Rw.a sl_) N (j + 1) = A1 at *
    replace hA1 := hid hA1
    generalize hB1 : upL (colF V Rw.b sl_) N (j + 1) = B1 at *
    replace hB1 := hid hB1
    generalize hC1 : upL (colF V Rw.c sl_) N (j + 1) = C1 at *
    replace hC1 := hid hC1
    refine AW.skip ?_
    repeat refine AW.seq ?_
    refine AW.block ?_
    repeat refine AW.seq ?_
    refine AW.reg ?_
    iterate 6 refine AOL.s1 (h := ?_)
    refine AOL.nil ?_
    refine AW.kq [1, 6, 9, 11, 12, 41, 42, 43] (h := ?_)
    repeat refine AW.seq ?_
    refine AW.dw [(22, 3000, blk A1), (24, 3001, blk B1)] 25 [] (by kernel_rfl) (h := ?_)
    iterate 12 refine ADLW.d1 (h := ?_)
    refine ADLW.call rfl rfl (ca) (by kernel_rfl) rfl rfl (by simp only [List.cons_append, List.nil_append]; exact rfl) ?_
    iterate 3 refine ADLW.d1 (h := ?_)
    refine ADLW.call rfl rfl (cb) (by kernel_rfl) rfl rfl (by simp only [List.cons_append, List.nil_append]; exact rfl) ?_
    iterate 3 refine ADLW.d1 (h := ?_)
    refine ADLW.call rfl rfl (cc) (by kernel_rfl) rfl rfl (by simp only [List.cons_append, List.nil_append]; exact rfl) ?_
    iterate 1 refine ADLW.d1 (h := ?_)
    refine ADLW.st (h := ?_)
    iterate 1 refine ADLW.d1 (h := ?_)
    refine ADLW.st (h := ?_)
    refine ADLW.fin hmix rfl rfl rfl rfl (hT := ?_)
    iterate 2 refine AOL.s1 (h := ?_)
    refine AOL.nil ?_
    refine AW.let 1192 (h := ?_)
    repeat refine AW.seq ?_
    refine AW.reg ?_
    iterate 2 refine AOL.s1 (h := ?_)
    refine AOL.nil ?_
    exact ⟨r.length, by simp, j + 1, r, by rw [show upL (colF V Rw.a sl_) N (j + 1) = A1 from hA1, show upL (colF V Rw.b sl_) N (j + 1) = B1 from hB1, show upL (colF V Rw.c sl_) N (j + 1) = C1 from hC1]; rfl, hr', hlt, rfl⟩
  obtain rfl := ends_nil hr (by simpa using e_)
  have hj : j = sl_.length := dnilq hr hkl
  subst hj
  have wA : wV (colL V Rw.a N sl_) := upL_w (colF_w V _ _) _ _
  have wB : wV (colL V Rw.b N sl_) := upL_w (colF_w V _ _) _ _
  have wC : wV (colL V Rw.c N sl_) := upL_w (colF_w V _ _) _ _
  have lA : (colL V Rw.a N sl_).length = N := upL_len _ kN
  have lB : (colL V Rw.b N sl_).length = N := upL_len _ kN
  have lC : (colL V Rw.c N sl_).length = N := upL_len _ kN
  have cA := poly_Inverse_o k12 (lA.trans hN.symm) wA
  have cB := poly_Inverse_o k12 (lB.trans hN.symm) wB
  have cC := poly_Inverse_o k12 (lC.trans hN.symm) wC
  have eA : upL (colF V Rw.a sl_) N sl_.length = colL V Rw.a N sl_ := rfl
  have eB : upL (colF V Rw.b sl_) N sl_.length = colL V Rw.b N sl_ := rfl
  have eC : upL (colF V Rw.c sl_) N sl_.length = colL V Rw.c N sl_ := rfl
  rw [eA, eB, eC]
  clear eA eB eC hr e_ hws hlens hV kN wz
  have lIA := invF_len k (colL V Rw.a N sl_)
  have lIB := invF_len k (colL V Rw.b N sl_)
  have lIC := invF_len k (colL V Rw.c N sl_)
  have wIA := invF_w k (colL V Rw.a N sl_)
  have wIB := invF_w k (colL V Rw.b N sl_)
  have wIC := invF_w k (colL V Rw.c N sl_)
  rw [hN] at lIA lIB lIC
  rw [ul_def (colL V Rw.a N sl_), lA] at cA
  rw [ul_def (colL V Rw.b N sl_), lB] at cB
  rw [ul_def (colL V Rw.c N sl_), lC] at cC
  have hsA : sub 0 (N * 1) (fm u1 (colL V Rw.a N sl_)) = fm u1 (colL V Rw.a N sl_) := sub_all (Nat.le_of_eq (by rw [fml, lA, Nat.mul_one]))
  have hsB : sub 0 (N * 1) (fm u1 (colL V Rw.b N sl_)) = fm u1 (colL V Rw.b N sl_) := sub_all (Nat.le_of_eq (by rw [fml, lB, Nat.mul_one]))
  have hsC : sub 0 (N * 1) (fm u1 (colL V Rw.c N sl_)) = fm u1 (colL V Rw.c N sl_) := sub_all (Nat.le_of_eq (by rw [fml, lC, Nat.mul_one]))
  clear lA lB lC wA wB wC
  generalize invF k (colL V Rw.a N sl_) = IA at *
  generalize invF k (colL V Rw.b N sl_) = IB at *
  generalize invF k (colL V Rw.c N sl_) = IC at *
  generalize colL V Rw.a N sl_ = A0 at *
  generalize colL V Rw.b N sl_ = B0 at *
  generalize colL V Rw.c N sl_ = C0 at *
  generalize quoP ⟨sv, sp, sl_⟩ V = QP at *
  repeat refine AW.seq ?_
  refine AW.exit ?_
  repeat (first | refine Kseq.ex ?_ | refine Kloop.ex ?_ | refine Kblock.miss (by decide) ?_)
  refine Kblock.hit ?_
  refine AW.kq [6, 9] (h := ?_)
  refine AW.fz 3000 rfl (fun h => by cases h) (h := ?_)
  refine AW.fz 3001 rfl (fun h => by cases h) (h := ?_)
  refine AW.fz 3002 rfl (fun h => by cases h) (h := ?_)
  rw [hsA, hsB, hsC]
  clear hsA hsB hsC
  replace lIA := hid lIA
  replace lIB := hid lIB
  replace lIC := hid lIC
  replace eP := hid eP
  repeat refine AW.seq ?_
  refine AW.reg ?_
  iterate 1 refine AOL.s1 (h := ?_)
  refine AOL.nil ?_
  refine AW.kq [6, 9, 73] (h := ?_)
  repeat refine AW.seq ?_
  refine AW.block ?_
  repeat refine AW.seq ?_
  refine AW.rounds ?_
  refine AWin.next [6, 9, 73] (h := ?_)
  repeat refine AW.seq ?_
  refine AW.reg ?_
  iterate 1 refine AOL.s1 (h := ?_)
  refine AOL.nil ?_
  refine AW.kq [6, 9, 73, 74] (h := ?_)
  repeat refine AW.seq ?_
  refine AW.cond rfl (fun c_ => ?_) (fun c_ => ?_)
  rotate_left
  · cases c_
  refine AW.skip ?_
  repeat refine AW.seq ?_
  refine AW.block ?_
  repeat refine AW.seq ?_
  refine AW.reg ?_
  iterate 2 refine AOL.s1 (h := ?_)
  refine AOL.nil ?_
  refine AW.kq [6, 9, 13, 73] (h := ?_)
  repeat refine AW.seq ?_
  refine AW.reg ?_
  iterate 5 refine AOL.s1 (h := ?_)
  refine AOL.callO 5000 (cA) rfl (by kernel_rfl) rfl (by first | rfl | exact frees_fm (fun _ => rfl) _) (by intro l_ hl_; simp [labs, labss] at hl_ <;> exact hl_) (by decide) (by simp only [St.drop, mapT, mapH, kill, kills, del, St.put, ins, ren, rens, reduceIte, Nat.reduceLT, Nat.reduceEqDiff, Bool.false_eq_true]; exact rfl) ?_
  iterate 6 refine AOL.s1 (h := ?_)
  refine AOL.nil ?_
  refine AW.kq [6, 7, 9, 73] (h := ?_)
  repeat refine AW.seq ?_
  refine AW.reg ?_
  iterate 2 refine AOL.s1 (h := ?_)
  refine AOL.nil ?_
  refine AW.kq [6, 7, 9, 73, 87] (h := ?_)
  repeat refine AW.seq ?_
  refine AW.cond rfl (fun f_ => ?_) (fun f_ => ?_)
  · cases f_
  refine AW.skip ?_
  refine AW.mv 5000 4000 (h := ?_)
  repeat refine AW.seq ?_
  refine AW.reg ?_
  iterate 2 refine AOL.s1 (h := ?_)
  refine AOL.nil ?_
  refine AWin.next [6, 9, 73] (h := ?_)
  repeat refine AW.seq ?_
  refine AW.reg ?_
  iterate 1 refine AOL.s1 (h := ?_)
  refine AOL.nil ?_
  refine AW.kq [6, 9, 73, 74] (h := ?_)
  repeat refine AW.seq ?_
  refine AW.cond rfl (fun c_ => ?_) (fun c_ => ?_)
  rotate_left
  · cases c_
  refine AW.skip ?_
  repeat refine AW.seq ?_
  refine AW.block ?_
  repeat refine AW.seq ?_
  refine AW.reg ?_
  iterate 2 refine AOL.s1 (h := ?_)
  refine AOL.nil ?_
  refine AW.kq [6, 9, 13, 73] (h := ?_)
  repeat refine AW.seq ?_
  refine AW.reg ?_
  iterate 5 refine AOL.s1 (h := ?_)
  refine AOL.callO 5000 (cB) rfl (by kernel_rfl) rfl (by first | rfl | exact frees_fm (fun _ => rfl) _) (by intro l_ hl_; simp [labs, labss] at hl_ <;> exact hl_) (by decide) (by simp only [St.drop, mapT, mapH, kill, kills, del, St.put, ins, ren, rens, reduceIte, Nat.reduceLT, Nat.reduceEqDiff, Bool.false_eq_true]; exact rfl) ?_
  iterate 6 refine AOL.s1 (h := ?_)
  refine AOL.nil ?_
  refine AW.kq [6, 7, 9, 73] (h := ?_)
  repeat refine AW.seq ?_
  refine AW.reg ?_
  iterate 2 refine AOL.s1 (h := ?_)
  refine AOL.nil ?_
  refine AW.kq [6, 7, 9, 73, 87] (h := ?_)
  repeat refine AW.seq ?_
  refine AW.cond rfl (fun f_ => ?_) (fun f_ => ?_)
  · cases f_
  refine AW.skip ?_
  refine AW.mv 5000 4001 (h := ?_)
  repeat refine AW.seq ?_
  refine AW.reg ?_
  iterate 2 refine AOL.s1 (h := ?_)
  refine AOL.nil ?_
  refine AWin.next [6, 9, 73] (h := ?_)
  repeat refine AW.seq ?_
  refine AW.reg ?_
  iterate 1 refine AOL.s1 (h := ?_)
  refine AOL.nil ?_
  refine AW.kq [6, 9, 73, 74] (h := ?_)
  repeat refine AW.seq ?_
  refine AW.cond rfl (fun c_ => ?_) (fun c_ => ?_)
  rotate_left
  · cases c_
  refine AW.skip ?_
  repeat refine AW.seq ?_
  refine AW.block ?_
  repeat refine AW.seq ?_
  refine AW.reg ?_
  iterate 2 refine AOL.s1 (h := ?_)
  refine AOL.nil ?_
  refine AW.kq [6, 9, 13, 73] (h := ?_)
  repeat refine AW.seq ?_
  refine AW.reg ?_
  iterate 5 refine AOL.s1 (h := ?_)
  refine AOL.callO 5000 (cC) rfl (by kernel_rfl) rfl (by first | rfl | exact frees_fm (fun _ => rfl) _) (by intro l_ hl_; simp [labs, labss] at hl_ <;> exact hl_) (by decide) (by simp only [St.drop, mapT, mapH, kill, kills, del, St.put, ins, ren, rens, reduceIte, Nat.reduceLT, Nat.reduceEqDiff, Bool.false_eq_true]; exact rfl) ?_
  iterate 6 refine AOL.s1 (h := ?_)
  refine AOL.nil ?_
  refine AW.kq [6, 7, 9, 73] (h := ?_)
  repeat refine AW.seq ?_
  refine AW.reg ?_
  iterate 2 refine AOL.s1 (h := ?_)
  refine AOL.nil ?_
  refine AW.kq [6, 7, 9, 73, 87] (h := ?_)
  repeat refine AW.seq ?_
  refine AW.cond rfl (fun f_ => ?_) (fun f_ => ?_)
  · cases f_
  refine AW.skip ?_
  refine AW.mv 5000 4002 (h := ?_)
  repeat refine AW.seq ?_
  refine AW.reg ?_
  iterate 2 refine AOL.s1 (h := ?_)
  refine AOL.nil ?_
  refine AWin.next [6, 9, 73] (h := ?_)
  repeat refine AW.seq ?_
  refine AW.reg ?_
  iterate 1 refine AOL.s1 (h := ?_)
  refine AOL.nil ?_
  refine AW.kq [6, 9, 73, 74] (h := ?_)
  repeat refine AW.seq ?_
  refine AW.cond rfl (fun c_ => ?_) (fun c_ => ?_)
  · cases c_
  repeat refine AW.seq ?_
  refine AW.exit ?_
  repeat (first | refine Kseq.ex ?_ | refine Kloop.ex ?_ | refine Kblock.miss (by decide) ?_)
  refine Kblock.hit ?_
  refine AW.kq [6, 9] (h := ?_)
  have lIA' : IA.length = N := lIA
  have lIB' : IB.length = N := lIB
  have lIC' : IC.length = N := lIC
  have hsA : sub 0 (N * 1) (fm u1 IA) = fm u1 IA := sub_all (Nat.le_of_eq (by rw [fml, lIA', Nat.mul_one]))
  have hsB : sub 0 (N * 1) (fm u1 IB) = fm u1 IB := sub_all (Nat.le_of_eq (by rw [fml, lIB', Nat.mul_one]))
  have hsC : sub 0 (N * 1) (fm u1 IC) = fm u1 IC := sub_all (Nat.le_of_eq (by rw [fml, lIC', Nat.mul_one]))
  refine AW.fz 4000 rfl (fun h => by cases h) (h := ?_)
  refine AW.fz 4001 rfl (fun h => by cases h) (h := ?_)
  refine AW.fz 4002 rfl (fun h => by cases h) (h := ?_)
  rw [hsA, hsB, hsC]
  clear hsA hsB hsC
  have cM := poly_Mul_o (p := IA) (q := IB) (by omega) (by omega) (by omega) wIA wIB
  rw [ul_def IA, ul_def IB, lIA', lIB'] at cM
  have lM := mulL_len IA IB
  have wM := mulL_w IA IB
  have wP0 := shortL_w wM
  have lP0 := shortL_le (mulL IA IB)
  have htk : (fm u1 (mulL IA IB)).take (shortL (mulL IA IB)).length = fm u1 (shortL (mulL IA IB)) := by
    obtain ⟨r, h⟩ := shortL_pre (mulL IA IB)
    have : fm u1 (mulL IA IB) = fm u1 (shortL (mulL IA IB)) ++ fm u1 r := by rw [← fm_app, ← h]
    rw [this, List.take_append_of_le_length (by rw [fml]; omega), List.take_of_length_le (by rw [fml]; omega)]
  rw [lIA', lIB'] at lM
  rw [lM] at lP0
  have eP : QP = subF 0 IC (shortL (mulL IA IB)) := eP
  clear lM lIA' lIB' wM cA cB cC
  repeat refine AW.seq ?_
  refine AW.reg ?_
  iterate 4 refine AOL.s1 (h := ?_)
  refine AOL.callO 6000 (cM) rfl (by kernel_rfl) rfl (by first | rfl | exact frees_fm (fun _ => rfl) _) (by intro l_ hl_; simp [labs, labss] at hl_ <;> exact hl_) (by decide) (by simp only [St.drop, mapT, mapH, kill, kills, del, St.put, ins, ren, rens, reduceIte, Nat.reduceLT, Nat.reduceEqDiff, Bool.false_eq_true]; exact rfl) ?_
  iterate 1 refine AOL.s1 (h := ?_)
  refine AOL.nil ?_
  refine AW.kq [6, 9, 14] (h := ?_)
  refine AW.tr 6000 (shortL (mulL IA IB)).length (h := ?_)
  rw [htk]
  clear htk cM
  generalize shortL (mulL IA IB) = P0 at *
  rw [show (AV.sl N (fm u1 IC)) = ul IC by rw [ul_def, lIC']]
  have eQ : subF 0 IC P0 = QP := eP.symm
  have lQ : QP.length = max P0.length N := by rw [eP, subF_len IC 0 P0 (Nat.zero_le _), lIC']; omega
  have wQ : wV QP := by rw [eP]; exact subF_w IC 0 wP0
  clear eP
  replace lIC' := hid lIC'
  repeat refine AW.seq ?_
  refine AW.reg ?_
  iterate 4 refine AOL.s1 (h := ?_)
  refine AOL.nil ?_
  refine AW.kq [6, 14, 96, 97, 98] (h := ?_)
  refine AW.let 1144 (h := ?_)
  repeat refine AW.seq ?_
  refine AW.block ?_
  repeat refine AW.seq ?_
  refine AW.loopK [6, 14, 96, 97, 98] (fun n' s => ∃ (j : Nat) (r P : List Int), s = ⟨125, [(6, i k), (14, .ref 6000 0 P.length 1), (96, ul IC), (97, i IC.length), (98, i j)], [(6000, blk P)]⟩ ∧ IC.drop j = r ∧ j ≤ IC.length ∧ n' = r.length ∧ j ≤ P.length ∧ P.length ≤ 12288 ∧ wV P ∧ subF j r P = QP) IC.length ?_ ?_
  · exact ⟨0, IC, P0, rfl, rfl, Nat.zero_le _, rfl, Nat.zero_le _, by omega, wP0, eQ⟩
  rintro n' s ⟨j, r, P, rfl, hr, hkl, rfl, jP, lP, wP, hP⟩
  repeat refine AW.seq ?_
  refine AW.reg ?_
  iterate 1 refine AOL.s1 (h := ?_)
  refine AOL.nil ?_
  refine AW.kq [6, 14, 96, 97, 98, 99] (h := ?_)
  repeat refine AW.seq ?_
  refine AW.cond rfl (fun e_ => ?_) (fun e_ => ?_)
  · have lIC2 : IC.length = N := lIC'
    obtain ⟨c, r, rfl⟩ := ends_cons hr hkl (by simpa using e_)
    obtain ⟨hlt, hr', hct⟩ := dconsq hr
    obtain ⟨c', hc', hcw, hdc⟩ := at_nat (V := IC) (n := j) (by omega) wIC
    obtain rfl : c = c' := by rw [hct] at hc'; exact Option.some.inj hc'
    have k0 : (0:Int) ≤ j := by omega
    have k1 : (j:Int) < IC.length := by omega
    have hiw := incq hlt (by omega)
    simp only [subF] at hP
    have wP1 : wV (if j = P.length then P ++ [0] else P) := by
      split
      · exact app_w wP (by intro v hv; simp at hv; subst hv; decide)
      · exact wP
    have lP1 : (if j = P.length then P ++ [0] else P).length ≤ 12288 := by
      split
      · rw [List.length_append, List.length_singleton]; omega
      · exact lP
    have jP1 : j < (if j = P.length then P ++ [0] else P).length := by
      split
      · rw [List.length_append, List.length_singleton]; omega
      · omega
    have hif1 : j = P.length → (if j = P.length then P ++ [0] else P) = P ++ [0] := fun h => by rw [if_pos h]
    have hif2 : ¬ j = P.length → (if j = P.length then P ++ [0] else P) = P := fun h => by rw [if_neg h]
    generalize (if j = P.length then P ++ [0] else P) = P1 at *
    clear lIC2 hr hct hc' e_ lQ wQ eQ
    refine AW.skip ?_
    repeat refine AW.seq ?_
    refine AW.block ?_
    repeat refine AW.seq ?_
    refine AW.reg ?_
    iterate 5 refine AOL.s1 (h := ?_)
    refine AOL.nil ?_
    refine AW.kq [6, 14, 15, 16, 96, 97, 98] (h := ?_)
    repeat refine AW.seq ?_
    refine AW.reg ?_
    iterate 4 refine AOL.s1 (h := ?_)
    refine AOL.nil ?_
    refine AW.kq [6, 14, 15, 16, 96, 97, 98, 106] (h := ?_)
    repeat refine AW.seq ?_
    refine AW.midS [6, 14, 15, 16, 96, 97, 98] (fun t => t = ⟨125, [(6, i k), (14, .ref 6000 0 P1.length 1), (15, i j), (16, u c), (96, ul IC), (97, i IC.length), (98, i j)], [(6000, blk P1)]⟩) ?_ ?_
    · refine AW.cond rfl (fun g_ => ?_) (fun g_ => ?_)
      · have hjP : j = P.length := by have : (j:Int) = P.length := by simpa using g_
                                      omega
        have hP1 := hif1 hjP
        have f1 := fml P
        have f2 : P.length + 1 ≤ 140737488355328 := by omega
        have f3 : (P.length + 1) * 8 ≤ 140737488355328 := by omega
        have f4 : P.length + 1 ≤ 4611686018427387904 := by omega
        have f5 : P.length ≤ 140737488355327 := by omega
        have f6 : P.length ≤ 4611686018427387903 := by omega
        have f7 : fm u1 P ++ [u 0] = fm u1 P1 := by rw [hP1]; exact fm_snoc P 0
        have f8 : P1.length = P.length + 1 := by rw [hP1, List.length_append]; rfl
        have z3 : (1:Nat) ≤ 16777216 := by decide
        rw [f8]
        clear hif1 hif2 hP1 hjP jP1 lP1 f8 g_ jP lP wP1 hP
        repeat refine AW.seq ?_
        refine AW.reg ?_
        iterate 4 refine AOL.s1 (h := ?_)
        refine AOL.nil ?_
        exact ⟨_, Sub.drop _ 2728, rfl⟩
      · have hjP : ¬ j = P.length := by
          intro h
          have : ((j:Int) == P.length) = true := by rw [h]; simp
          have g_ : ((j:Int) == P.length) = false := g_
          rw [this] at g_; cases g_
        rw [hif2 hjP]
        refine AW.skip ?_
        exact ⟨_, Sub.refl _, rfl⟩
    rintro t rfl
    obtain ⟨v, hv, hvw, hdv⟩ := at_nat (V := P1) (n := j) (by omega) wP1
    have k2 : (j:Int) < P1.length := by omega
    rw [hv] at hP
    simp only [Option.getD_some] at hP
    have fs := fset P1 j ((v - c) % 288230376287764481)
    have fl := fml P1
    have jl : j + 1 ≤ P1.length := jP1
    have ls : (P1.set j ((v - c) % 288230376287764481)).length = P1.length := List.length_set
    have ws := set_w wP1 (w64_r (v - c)) j
    generalize P1.set j ((v - c) % 288230376287764481) = P2 at *
    have lP2 : P2.length ≤ 12288 := by omega
    have jP2 : j + 1 ≤ P2.length := by omega
    clear hif1 hif2 hv
    rw [← ls]
    have fl : (fm u1 P1).length = P2.length := by rw [fl, ls]
    have k2 : (j:Int) < P2.length := by omega
    clear ls lP1 jP1
    repeat refine AW.seq ?_
    refine AW.reg ?_
    iterate 7 refine AOL.s1 (h := ?_)
    refine AOL.callD rfl (modular_Sub_c hR hvw hcw) (by kernel_rfl) rfl rfl (h := ?_)
    iterate 2 refine AOL.s1 (h := ?_)
    refine AOL.nil ?_
    repeat refine AW.seq ?_
    refine AW.reg ?_
    iterate 2 refine AOL.s1 (h := ?_)
    refine AOL.nil ?_
    exact ⟨r.length, by simp, j + 1, r, P2, rfl, hr', hlt, rfl, jP2, lP2, ws, hP⟩
  obtain rfl := ends_nil hr (by simpa using e_)
  have hQ : P = QP := hP
  subst hQ
  have hNP : N ≤ P.length := by omega
  have hsP : sub 0 (P.length * 1) (fm u1 P) = fm u1 P := sub_all (Nat.le_of_eq (by rw [fml, Nat.mul_one]))
  have cV := poly_Vanish_o (k := k) (M := P.length - N) (p := P) k12 (by rw [hN]; omega) (by omega) wQ
  rw [hN] at cV
  clear eQ hP hr e_ lQ
  repeat refine AW.seq ?_
  refine AW.exit ?_
  repeat (first | refine Kseq.ex ?_ | refine Kloop.ex ?_ | refine Kblock.miss (by decide) ?_)
  refine Kblock.hit ?_
  refine AW.kq [6, 14] (h := ?_)
  refine AW.fz 6000 rfl (fun h => by cases h) (h := ?_)
  rw [hsP]
  clear hsP
  cases hok : vanOk N P with
  | false =>
    have cV : Fn Try.prog 62 [ul P, i k] [] (fun r _ => r = .tup [.val (.slice none 0 0), er 8]) := cV.mono (by
      rintro r h (⟨_, h2, _⟩ | ⟨h1, _⟩ | ⟨h1, _⟩)
      · exact h2
      · rw [hok] at h1; cases h1
      · rw [hok] at h1; cases h1)
    clear hok
    repeat refine AW.seq ?_
    refine AW.reg ?_
    iterate 2 refine AOL.s1 (h := ?_)
    refine AOL.callD rfl (cV) (by kernel_rfl) rfl rfl (h := ?_)
    iterate 4 refine AOL.s1 (h := ?_)
    refine AOL.nil ?_
    refine AW.kq [4, 5] (h := ?_)
    repeat refine AW.seq ?_
    refine AW.ret ?_
    refine ⟨_, [], rfl, HOk.nil _, ?_⟩
    exact .inl ⟨rfl, rfl⟩
  | true =>
  rcases Nat.eq_or_lt_of_le hNP with hM | hM
  · have cV : Fn Try.prog 62 [ul P, i k] [] (fun r _ => r = .tup [ul [], nil_]) := cV.mono (by
      rintro r h (⟨h1, _⟩ | ⟨_, _, h2, _⟩ | ⟨_, h1, _⟩)
      · rw [hok] at h1; cases h1
      · exact h2
      · omega)
    replace hM := hid hM
    clear hok
    repeat refine AW.seq ?_
    refine AW.reg ?_
    iterate 2 refine AOL.s1 (h := ?_)
    refine AOL.callD rfl (cV) (by kernel_rfl) rfl rfl (h := ?_)
    iterate 4 refine AOL.s1 (h := ?_)
    refine AOL.nil ?_
    refine AW.kq [4, 5] (h := ?_)
    repeat refine AW.seq ?_
    refine AW.ret ?_
    refine ⟨_, [], rfl, HOk.nil _, ?_⟩
    exact .inr (.inl ⟨rfl, Eq.symm hM, rfl⟩)
  · have cV : Fn Try.prog 62 [ul P, i k] [] (Tells (.tup [.ref 1000 0 (vanV N P).length 1, nil_]) [(1000, blk (vanR N P).2)]) := cV.mono (by
      rintro r h (⟨h1, _⟩ | ⟨_, h1, _⟩ | ⟨_, _, h2⟩)
      · rw [hok] at h1; cases h1
      · omega
      · exact h2)
    clear hok
    repeat refine AW.seq ?_
    refine AW.reg ?_
    iterate 2 refine AOL.s1 (h := ?_)
    refine AOL.callO 5000 (cV) rfl (by kernel_rfl) rfl (by first | rfl | exact frees_fm (fun _ => rfl) _) (by intro l_ hl_; simp [labs, labss] at hl_ <;> exact hl_) (by decide) (by simp only [St.drop, mapT, mapH, kill, kills, del, St.put, ins, ren, rens, reduceIte, Nat.reduceLT, Nat.reduceEqDiff, Bool.false_eq_true]; exact rfl) ?_
    iterate 4 refine AOL.s1 (h := ?_)
    refine AOL.nil ?_
    refine AW.kq [4, 5] (h := ?_)
    repeat refine AW.seq ?_
    refine AW.ret ?_
    refine ⟨_, [(5000, _)], rfl, (fun p_ hp_ => hp_), ?_⟩
    refine .inr (.inr ⟨rfl, hM, ?_⟩)
    refine Tells.one 5000 (by decide) ?_
    exact frees_fm (fun _ => rfl) _

end Go.Proofs.Ytdbpjegocmdplaa.E.M

