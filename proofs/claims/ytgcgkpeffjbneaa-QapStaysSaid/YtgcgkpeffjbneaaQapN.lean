/- QapStays over E. -/
import Derived.Test.YtgcgkpeffjbneaaQapM
import Derived.Test.YtgcgkpeffjbneaaEG
import Derived.Test.YtgcgkpeffjbneaaProg
import Derived.KernelRfl
set_option linter.unusedVariables false
set_option linter.unusedSimpArgs false
set_option maxRecDepth 10000
open Go Go.Proofs.Ytgcgkpeffjbneaa.E Go.Proofs
namespace Go.Proofs.Ytgcgkpeffjbneaa.E.M
theorem qap_At_a {s : Rk} {x : Int} {n : Nat} (hS : Len s) (hx : w64 x) (hc : chkF s = true) (hn : s.v = n) : Fn Try.prog 12 [.agg (rk s), u x] [] (Tells (.tup [.ref 1000 0 n 1, .dead, .dead, u (zF (lg s.l.length) x), nil_]) [(1000, blk (atL Rw.a s x))]) := by
  refine Fn.out (qap_At_o hS hx hc hn) ?_
  rintro r h ⟨f, h1, h2, h3, rfl, rfl⟩
  refine ⟨_, _, ⟨f, h1, ?_, ?_, rfl, rfl⟩, ?_, ?_⟩
  · intro l hl; exact h2 l (by simp [hlabs] at hl ⊢; exact .inl hl)
  · intro l hl k hk; simp [hlabs] at hl hk; intro _; rw [hl, hk]
  · exact .tup (.cons (.refl _) (.cons (.dead _) (.cons (.dead _) (.cons (.refl _) (.cons (.refl _) .nil)))))
  · intro p hp; simp [mapS] at hp ⊢; exact .inl hp
theorem qap_At_e {s : Rk} {x : Int} (hS : Len s) (hc : chkF s = false) : Fn Try.prog 12 [.agg (rk s), u x] [] (fun r _ => r = .tup [.val (.slice none 0 0), .val (.slice none 0 0), .val (.slice none 0 0), u 0, er 3]) := by
  have cs := qap_Size_c hS
  have esz : sizeF s = [i 0, er 3] := by simp [sizeF, hc]
  rw [esz] at cs
  refine Fn.enter Try.func12 Try.ntmps12 rfl (h := ?_)
  have tf := tf
  repeat refine AW.seq ?_
  refine AW.reg ?_
  iterate 6 refine AOL.s1 (h := ?_)
  refine AOL.nil ?_
  refine AW.kq [1, 2] (h := ?_)
  repeat refine AW.seq ?_
  refine AW.reg ?_
  iterate 1 refine AOL.s1 (h := ?_)
  refine AOL.callD rfl (cs) (by kernel_rfl) rfl rfl (h := ?_)
  iterate 5 refine AOL.s1 (h := ?_)
  refine AOL.nil ?_
  refine AW.kq [1, 2, 8, 9] (h := ?_)
  repeat refine AW.seq ?_
  refine AW.reg ?_
  iterate 2 refine AOL.s1 (h := ?_)
  refine AOL.nil ?_
  refine AW.kq [1, 2, 8, 9, 19] (h := ?_)
  repeat refine AW.seq ?_
  refine AW.cond rfl (fun c_ => ?_) (fun c_ => ?_)
  · repeat refine AW.seq ?_
    refine AW.reg ?_
    iterate 6 refine AOL.s1 (h := ?_)
    refine AOL.nil ?_
    refine AW.kq [4, 5, 6, 7, 8] (h := ?_)
    repeat refine AW.seq ?_
    refine AW.ret ?_
    refine ⟨_, [], rfl, HOk.nil _, ?_⟩
    rfl
  cases c_
theorem rows_of (V : List Int) : ∀ (l : List Rw) (k : Nat), rowsH V k l = nil_ ∨ ∃ j, rowsH V k l = spot j 8
  | [], k => .inl rfl
  | r :: l, k => by
    simp only [rowsH]
    split
    · exact rows_of V l (k + 1)
    · exact .inr ⟨_, rfl⟩
theorem holds_of {s : Rk} (V : List Int) (hc : chkF s = true) : holdsF s V = nil_ ∨ (∃ n, holdsF s V = er n) ∨ ∃ k, holdsF s V = spot k 8 := by
  unfold holdsF
  rw [if_pos hc]
  split
  · exact .inr (.inl ⟨1, rfl⟩)
  · rcases rows_of V s.l 0 with h | ⟨j, h⟩
    · exact .inl h
    · exact .inr (.inr ⟨_, h⟩)
theorem sl0_tup (e : AV) : Wk (.tup [.val (.slice none 0 0), e]) (.tup [ul [], e]) := .tup (.cons .nilS (.cons (.refl _) .nil))
def errL (e : AV) : Prop := e = nil_ ∨ (∃ n, e = er n) ∨ ∃ k, e = spot k 8
/-- what Quotient tells: nothing and an error, or nothing, or a row of its own -/
theorem quo_kinds {s : Rk} {V : List Int} (hS : Len s) (hW : wR s) (hV : wV V) (lV : V.length < 1000000000) :
    (∃ e, errL e ∧ Fn Try.prog 15 [.agg (rk s), ul V] [] (fun r _ => r = .tup [ul [], e])) ∨ ∃ m L, m ≤ L.length ∧ m < 1000000000 ∧ Fn Try.prog 15 [.agg (rk s), ul V] [] (Tells (.tup [.ref 1000 0 m 1, nil_]) [(1000, blk L)]) := by
  cases hc : chkF s with
  | false => exact .inl ⟨er 3, .inr (.inl ⟨_, rfl⟩), Fn.outv (qap_Quotient_e1 hS hc) (sl0_tup _)⟩
  | true =>
  rcases holds_of V hc with he | he
  · have cq := qap_Quotient_o hS hc hW hV lV he rfl rfl
    cases hok : vanOk (2 ^ lg s.l.length) (quoP s V) with
    | false =>
      refine .inl ⟨er 8, .inr (.inl ⟨_, rfl⟩), Fn.outv (v := .tup [.val (.slice none 0 0), er 8]) (cq.mono ?_) (sl0_tup _)⟩
      rintro r h (⟨_, h2⟩ | ⟨h1, _⟩ | ⟨h1, _⟩)
      · exact h2
      · rw [hok] at h1; cases h1
      · rw [hok] at h1; cases h1
    | true =>
      by_cases hM : (quoP s V).length = 2 ^ lg s.l.length
      · refine .inl ⟨nil_, .inl rfl, cq.mono ?_⟩
        rintro r h (⟨h1, _⟩ | ⟨_, _, h2⟩ | ⟨_, h1, _⟩)
        · rw [hok] at h1; cases h1
        · exact h2
        · omega
      · have l1 : (vanR (2 ^ lg s.l.length) (quoP s V)).2.length = (quoP s V).length - 2 ^ lg s.l.length := by
          unfold vanR; rw [(vanF_len _ _ _ _).2, List.length_replicate]
        have l2 := shortL_le (vanR (2 ^ lg s.l.length) (quoP s V)).2
        have l3 : (quoP s V).length ≤ 100000 := by
          obtain ⟨k12, kN⟩ := lg_le (chk_len hc)
          obtain ⟨t1, t2⟩ := two_le k12
          unfold quoP
          rw [subF_len _ _ _ (Nat.zero_le _), invF_len]
          have h1 := shortL_le (mulL (invF (lg s.l.length) (colL V Rw.a (2 ^ lg s.l.length) s.l)) (invF (lg s.l.length) (colL V Rw.b (2 ^ lg s.l.length) s.l)))
          have h2 := mulL_len (invF (lg s.l.length) (colL V Rw.a (2 ^ lg s.l.length) s.l)) (invF (lg s.l.length) (colL V Rw.b (2 ^ lg s.l.length) s.l))
          rw [invF_len, invF_len] at h2
          omega
        refine .inr ⟨_, _, l2, ?_, cq.mono ?_⟩
        · have l4 : (vanV (2 ^ lg s.l.length) (quoP s V)).length = (shortL (vanR (2 ^ lg s.l.length) (quoP s V)).2).length := rfl
          generalize 2 ^ lg s.l.length = e at *
          omega
        · rintro r h (⟨h1, _⟩ | ⟨_, h1, _⟩ | ⟨_, _, h2⟩)
          · rw [hok] at h1; cases h1
          · exact absurd h1 hM
          · exact h2
  · exact .inl ⟨_, .inr he, Fn.outv (qap_Quotient_e2 hS hc hW hV lV rfl he) (sl0_tup _)⟩

set_option maxHeartbeats 16000000 in
theorem stays_pe {s : Rk} {V : List Int} {x : Int} (hlt : light14 s = true) (lV : V.length ≤ 5000) (hV : wV V) {e : AV} (he : errL e) (cq : Fn Try.prog 15 [.agg (rk s), ul V] [] (fun r _ => r = .tup [ul [], e])) (ca : Fn Try.prog 12 [.agg (rk s), u x] [] (fun r _ => r = .tup [.val (.slice none 0 0), .val (.slice none 0 0), .val (.slice none 0 0), u 0, er 3])) : Fn Try.prog 5 [.agg (rk s), ul V, u x] [] (fun r _ => r = bo true) := by
  have cu := obollaw14_up_c
  have cl := obolref14_Light_c (s := s)
  rw [hlt] at cl
  have cS := obolref13_Same_c hV hV (by omega)
  have hsame : sameF V V = true := by simp [sameF]
  rw [hsame] at cS
  have h5 : decide ((V.length : Int) > 5000) = false := by rw [decide_eq_false_iff_not]; omega
  have fl := fml V
  have a1 : V.length ≤ 140737488355328 := by omega
  have a2 : V.length * 8 ≤ 140737488355328 := by omega
  have a3 : V.length ≤ 4611686018427387904 := by omega
  have a4 : (0:Nat) ≤ 16777216 := by decide
  have hsV : sub 0 (V.length * 1) (fm u1 V) = fm u1 V := sub_all (Nat.le_of_eq (by rw [fml, Nat.mul_one]))
  have nt : (!true) = false := rfl
  have bf : (false || false) = false := rfl
  have tt : (true && true) = true := rfl
  have l00 : decide ((0:Int) < ((0:Nat):Int)) = false := rfl
  clear hlt hsame

  rcases he with rfl | ⟨n, rfl⟩ | ⟨k, rfl⟩
  · refine Fn.enter Try.func5 Try.ntmps5 rfl (h := ?_)
    have tf := tf
    have ot_ : (false || true) = true := rfl
    repeat refine AW.seq ?_
    refine AW.reg ?_
    iterate 2 refine AOL.s1 (h := ?_)
    refine AOL.nil ?_
    refine AW.kq [1, 2, 3] (h := ?_)
    repeat refine AW.seq ?_
    refine AW.reg ?_
    refine AOL.callD rfl (cu) (by kernel_rfl) rfl rfl (h := ?_)
    iterate 1 refine AOL.s1 (h := ?_)
    refine AOL.nil ?_
    refine AW.kq [1, 2, 3, 7] (h := ?_)
    repeat refine AW.seq ?_
    refine AW.reg ?_
    iterate 1 refine AOL.s1 (h := ?_)
    refine AOL.callD rfl (cl) (by kernel_rfl) rfl rfl (h := ?_)
    iterate 1 refine AOL.s1 (h := ?_)
    refine AOL.nil ?_
    refine AW.kq [1, 2, 3, 7, 8] (h := ?_)
    repeat refine AW.seq ?_
    refine AW.reg ?_
    iterate 7 refine AOL.s1 (h := ?_)
    refine AOL.nil ?_
    refine AW.kq [1, 2, 3, 7, 30] (h := ?_)
    repeat refine AW.seq ?_
    refine AW.cond rfl (fun c_ => ?_) (fun c_ => ?_)
    · cases c_
    refine AW.skip ?_
    repeat refine AW.seq ?_
    refine AW.reg ?_
    iterate 4 refine AOL.s1 (h := ?_)
    refine AOL.nil ?_
    refine AW.kq [1, 2, 3, 7, 9] (h := ?_)
    refine AW.fz 1512 rfl (fun h => by cases h) (h := ?_)
    rw [hsV]
    clear a1 a2 a3 a4 hsV h5 cu cl
    repeat refine AW.seq ?_
    refine AW.reg ?_
    iterate 2 refine AOL.s1 (h := ?_)
    refine AOL.callD rfl (cq) (by kernel_rfl) rfl rfl (h := ?_)
    iterate 5 refine AOL.s1 (h := ?_)
    refine AOL.nil ?_
    refine AW.kq [1, 2, 3, 7, 9, 10, 11] (h := ?_)
    repeat refine AW.seq ?_
    refine AW.reg ?_
    iterate 1 refine AOL.s1 (h := ?_)
    refine AOL.nil ?_
    refine AW.kq [1, 2, 3, 7, 9, 10, 11, 12] (h := ?_)
    repeat refine AW.seq ?_
    refine AW.block ?_
    repeat refine AW.seq ?_
    refine AW.rounds ?_
    refine AWin.next [1, 2, 3, 7, 9, 10, 11, 12] (h := ?_)
    repeat refine AW.seq ?_
    refine AW.reg ?_
    iterate 4 refine AOL.s1 (h := ?_)
    refine AOL.nil ?_
    refine AW.kq [1, 2, 3, 7, 9, 10, 11, 12, 44] (h := ?_)
    repeat refine AW.seq ?_
    refine AW.cond rfl (fun d_ => ?_) (fun d_ => ?_)
    · cases d_
    repeat refine AW.seq ?_
    refine AW.exit ?_
    repeat (first | refine Kseq.ex ?_ | refine Kloop.ex ?_ | refine Kblock.miss (by decide) ?_)
    refine Kblock.hit ?_
    refine AW.kq [1, 2, 3, 7, 9, 11] (h := ?_)
    repeat refine AW.seq ?_
    refine AW.reg ?_
    iterate 2 refine AOL.s1 (h := ?_)
    refine AOL.callD rfl (ca) (by kernel_rfl) rfl rfl (h := ?_)
    iterate 11 refine AOL.s1 (h := ?_)
    refine AOL.nil ?_
    refine AW.kq [1, 3, 7, 9, 11, 13] (h := ?_)
    repeat refine AW.seq ?_
    refine AW.reg ?_
    iterate 1 refine AOL.s1 (h := ?_)
    refine AOL.nil ?_
    refine AW.kq [1, 3, 7, 9, 11, 13, 18] (h := ?_)
    refine AW.wk 13 rfl Wk.nilS (h := ?_)
    repeat refine AW.seq ?_
    refine AW.block ?_
    repeat refine AW.seq ?_
    refine AW.rounds ?_
    refine AWin.next [1, 3, 7, 9, 11, 13, 18] (h := ?_)
    repeat refine AW.seq ?_
    refine AW.reg ?_
    iterate 4 refine AOL.s1 (h := ?_)
    refine AOL.nil ?_
    refine AW.kq [1, 3, 7, 9, 11, 13, 18, 62] (h := ?_)
    repeat refine AW.seq ?_
    refine AW.cond rfl (fun f_ => ?_) (fun f_ => ?_)
    · cases f_
    repeat refine AW.seq ?_
    refine AW.exit ?_
    repeat (first | refine Kseq.ex ?_ | refine Kloop.ex ?_ | refine Kblock.miss (by decide) ?_)
    refine Kblock.hit ?_
    refine AW.kq [1, 3, 7, 9, 11] (h := ?_)
    repeat refine AW.seq ?_
    refine AW.reg ?_
    iterate 2 refine AOL.s1 (h := ?_)
    refine AOL.callD rfl (cq) (by kernel_rfl) rfl rfl (h := ?_)
    iterate 5 refine AOL.s1 (h := ?_)
    refine AOL.nil ?_
    refine AW.kq [1, 7, 9, 11, 20] (h := ?_)
    repeat refine AW.seq ?_
    refine AW.drw 11 [] (by kernel_rfl) (h := ?_)
    iterate 4 refine ADL.dm 1 (h := ?_)
    refine ADL.call rfl (cS) (by kernel_rfl) rfl rfl (h := ?_)
    iterate 6 refine ADL.dm 1 (h := ?_)
    refine ADL.done hmix rfl rfl (hT := ?_)
    iterate 3 refine AOL.s1 (h := ?_)
    refine AOL.nil ?_
    refine AW.kq [6] (h := ?_)
    repeat refine AW.seq ?_
    refine AW.ret ?_
    refine ⟨_, [], rfl, HOk.nil _, ?_⟩
    rfl
  · refine Fn.enter Try.func5 Try.ntmps5 rfl (h := ?_)
    have tf := tf
    have ot_ : (false || true) = true := rfl
    repeat refine AW.seq ?_
    refine AW.reg ?_
    iterate 2 refine AOL.s1 (h := ?_)
    refine AOL.nil ?_
    refine AW.kq [1, 2, 3] (h := ?_)
    repeat refine AW.seq ?_
    refine AW.reg ?_
    refine AOL.callD rfl (cu) (by kernel_rfl) rfl rfl (h := ?_)
    iterate 1 refine AOL.s1 (h := ?_)
    refine AOL.nil ?_
    refine AW.kq [1, 2, 3, 7] (h := ?_)
    repeat refine AW.seq ?_
    refine AW.reg ?_
    iterate 1 refine AOL.s1 (h := ?_)
    refine AOL.callD rfl (cl) (by kernel_rfl) rfl rfl (h := ?_)
    iterate 1 refine AOL.s1 (h := ?_)
    refine AOL.nil ?_
    refine AW.kq [1, 2, 3, 7, 8] (h := ?_)
    repeat refine AW.seq ?_
    refine AW.reg ?_
    iterate 7 refine AOL.s1 (h := ?_)
    refine AOL.nil ?_
    refine AW.kq [1, 2, 3, 7, 30] (h := ?_)
    repeat refine AW.seq ?_
    refine AW.cond rfl (fun c_ => ?_) (fun c_ => ?_)
    · cases c_
    refine AW.skip ?_
    repeat refine AW.seq ?_
    refine AW.reg ?_
    iterate 4 refine AOL.s1 (h := ?_)
    refine AOL.nil ?_
    refine AW.kq [1, 2, 3, 7, 9] (h := ?_)
    refine AW.fz 1512 rfl (fun h => by cases h) (h := ?_)
    rw [hsV]
    clear a1 a2 a3 a4 hsV h5 cu cl
    repeat refine AW.seq ?_
    refine AW.reg ?_
    iterate 2 refine AOL.s1 (h := ?_)
    refine AOL.callD rfl (cq) (by kernel_rfl) rfl rfl (h := ?_)
    iterate 5 refine AOL.s1 (h := ?_)
    refine AOL.nil ?_
    refine AW.kq [1, 2, 3, 7, 9, 10, 11] (h := ?_)
    repeat refine AW.seq ?_
    refine AW.reg ?_
    iterate 1 refine AOL.s1 (h := ?_)
    refine AOL.nil ?_
    refine AW.kq [1, 2, 3, 7, 9, 10, 11, 12] (h := ?_)
    repeat refine AW.seq ?_
    refine AW.block ?_
    repeat refine AW.seq ?_
    refine AW.rounds ?_
    refine AWin.next [1, 2, 3, 7, 9, 10, 11, 12] (h := ?_)
    repeat refine AW.seq ?_
    refine AW.reg ?_
    iterate 4 refine AOL.s1 (h := ?_)
    refine AOL.nil ?_
    refine AW.kq [1, 2, 3, 7, 9, 10, 11, 12, 44] (h := ?_)
    repeat refine AW.seq ?_
    refine AW.cond rfl (fun d_ => ?_) (fun d_ => ?_)
    · cases d_
    repeat refine AW.seq ?_
    refine AW.exit ?_
    repeat (first | refine Kseq.ex ?_ | refine Kloop.ex ?_ | refine Kblock.miss (by decide) ?_)
    refine Kblock.hit ?_
    refine AW.kq [1, 2, 3, 7, 9, 11] (h := ?_)
    repeat refine AW.seq ?_
    refine AW.reg ?_
    iterate 2 refine AOL.s1 (h := ?_)
    refine AOL.callD rfl (ca) (by kernel_rfl) rfl rfl (h := ?_)
    iterate 11 refine AOL.s1 (h := ?_)
    refine AOL.nil ?_
    refine AW.kq [1, 3, 7, 9, 11, 13] (h := ?_)
    repeat refine AW.seq ?_
    refine AW.reg ?_
    iterate 1 refine AOL.s1 (h := ?_)
    refine AOL.nil ?_
    refine AW.kq [1, 3, 7, 9, 11, 13, 18] (h := ?_)
    refine AW.wk 13 rfl Wk.nilS (h := ?_)
    repeat refine AW.seq ?_
    refine AW.block ?_
    repeat refine AW.seq ?_
    refine AW.rounds ?_
    refine AWin.next [1, 3, 7, 9, 11, 13, 18] (h := ?_)
    repeat refine AW.seq ?_
    refine AW.reg ?_
    iterate 4 refine AOL.s1 (h := ?_)
    refine AOL.nil ?_
    refine AW.kq [1, 3, 7, 9, 11, 13, 18, 62] (h := ?_)
    repeat refine AW.seq ?_
    refine AW.cond rfl (fun f_ => ?_) (fun f_ => ?_)
    · cases f_
    repeat refine AW.seq ?_
    refine AW.exit ?_
    repeat (first | refine Kseq.ex ?_ | refine Kloop.ex ?_ | refine Kblock.miss (by decide) ?_)
    refine Kblock.hit ?_
    refine AW.kq [1, 3, 7, 9, 11] (h := ?_)
    repeat refine AW.seq ?_
    refine AW.reg ?_
    iterate 2 refine AOL.s1 (h := ?_)
    refine AOL.callD rfl (cq) (by kernel_rfl) rfl rfl (h := ?_)
    iterate 5 refine AOL.s1 (h := ?_)
    refine AOL.nil ?_
    refine AW.kq [1, 7, 9, 11, 20] (h := ?_)
    repeat refine AW.seq ?_
    refine AW.drw 11 [] (by kernel_rfl) (h := ?_)
    iterate 4 refine ADL.dm 1 (h := ?_)
    refine ADL.call rfl (cS) (by kernel_rfl) rfl rfl (h := ?_)
    iterate 6 refine ADL.dm 1 (h := ?_)
    refine ADL.done hmix rfl rfl (hT := ?_)
    iterate 3 refine AOL.s1 (h := ?_)
    refine AOL.nil ?_
    refine AW.kq [6] (h := ?_)
    repeat refine AW.seq ?_
    refine AW.ret ?_
    refine ⟨_, [], rfl, HOk.nil _, ?_⟩
    rfl
  · refine Fn.enter Try.func5 Try.ntmps5 rfl (h := ?_)
    have tf := tf
    have ot_ : (false || true) = true := rfl
    repeat refine AW.seq ?_
    refine AW.reg ?_
    iterate 2 refine AOL.s1 (h := ?_)
    refine AOL.nil ?_
    refine AW.kq [1, 2, 3] (h := ?_)
    repeat refine AW.seq ?_
    refine AW.reg ?_
    refine AOL.callD rfl (cu) (by kernel_rfl) rfl rfl (h := ?_)
    iterate 1 refine AOL.s1 (h := ?_)
    refine AOL.nil ?_
    refine AW.kq [1, 2, 3, 7] (h := ?_)
    repeat refine AW.seq ?_
    refine AW.reg ?_
    iterate 1 refine AOL.s1 (h := ?_)
    refine AOL.callD rfl (cl) (by kernel_rfl) rfl rfl (h := ?_)
    iterate 1 refine AOL.s1 (h := ?_)
    refine AOL.nil ?_
    refine AW.kq [1, 2, 3, 7, 8] (h := ?_)
    repeat refine AW.seq ?_
    refine AW.reg ?_
    iterate 7 refine AOL.s1 (h := ?_)
    refine AOL.nil ?_
    refine AW.kq [1, 2, 3, 7, 30] (h := ?_)
    repeat refine AW.seq ?_
    refine AW.cond rfl (fun c_ => ?_) (fun c_ => ?_)
    · cases c_
    refine AW.skip ?_
    repeat refine AW.seq ?_
    refine AW.reg ?_
    iterate 4 refine AOL.s1 (h := ?_)
    refine AOL.nil ?_
    refine AW.kq [1, 2, 3, 7, 9] (h := ?_)
    refine AW.fz 1512 rfl (fun h => by cases h) (h := ?_)
    rw [hsV]
    clear a1 a2 a3 a4 hsV h5 cu cl
    repeat refine AW.seq ?_
    refine AW.reg ?_
    iterate 2 refine AOL.s1 (h := ?_)
    refine AOL.callD rfl (cq) (by kernel_rfl) rfl rfl (h := ?_)
    iterate 5 refine AOL.s1 (h := ?_)
    refine AOL.nil ?_
    refine AW.kq [1, 2, 3, 7, 9, 10, 11] (h := ?_)
    repeat refine AW.seq ?_
    refine AW.reg ?_
    iterate 1 refine AOL.s1 (h := ?_)
    refine AOL.nil ?_
    refine AW.kq [1, 2, 3, 7, 9, 10, 11, 12] (h := ?_)
    repeat refine AW.seq ?_
    refine AW.block ?_
    repeat refine AW.seq ?_
    refine AW.rounds ?_
    refine AWin.next [1, 2, 3, 7, 9, 10, 11, 12] (h := ?_)
    repeat refine AW.seq ?_
    refine AW.reg ?_
    iterate 4 refine AOL.s1 (h := ?_)
    refine AOL.nil ?_
    refine AW.kq [1, 2, 3, 7, 9, 10, 11, 12, 44] (h := ?_)
    repeat refine AW.seq ?_
    refine AW.cond rfl (fun d_ => ?_) (fun d_ => ?_)
    · cases d_
    repeat refine AW.seq ?_
    refine AW.exit ?_
    repeat (first | refine Kseq.ex ?_ | refine Kloop.ex ?_ | refine Kblock.miss (by decide) ?_)
    refine Kblock.hit ?_
    refine AW.kq [1, 2, 3, 7, 9, 11] (h := ?_)
    repeat refine AW.seq ?_
    refine AW.reg ?_
    iterate 2 refine AOL.s1 (h := ?_)
    refine AOL.callD rfl (ca) (by kernel_rfl) rfl rfl (h := ?_)
    iterate 11 refine AOL.s1 (h := ?_)
    refine AOL.nil ?_
    refine AW.kq [1, 3, 7, 9, 11, 13] (h := ?_)
    repeat refine AW.seq ?_
    refine AW.reg ?_
    iterate 1 refine AOL.s1 (h := ?_)
    refine AOL.nil ?_
    refine AW.kq [1, 3, 7, 9, 11, 13, 18] (h := ?_)
    refine AW.wk 13 rfl Wk.nilS (h := ?_)
    repeat refine AW.seq ?_
    refine AW.block ?_
    repeat refine AW.seq ?_
    refine AW.rounds ?_
    refine AWin.next [1, 3, 7, 9, 11, 13, 18] (h := ?_)
    repeat refine AW.seq ?_
    refine AW.reg ?_
    iterate 4 refine AOL.s1 (h := ?_)
    refine AOL.nil ?_
    refine AW.kq [1, 3, 7, 9, 11, 13, 18, 62] (h := ?_)
    repeat refine AW.seq ?_
    refine AW.cond rfl (fun f_ => ?_) (fun f_ => ?_)
    · cases f_
    repeat refine AW.seq ?_
    refine AW.exit ?_
    repeat (first | refine Kseq.ex ?_ | refine Kloop.ex ?_ | refine Kblock.miss (by decide) ?_)
    refine Kblock.hit ?_
    refine AW.kq [1, 3, 7, 9, 11] (h := ?_)
    repeat refine AW.seq ?_
    refine AW.reg ?_
    iterate 2 refine AOL.s1 (h := ?_)
    refine AOL.callD rfl (cq) (by kernel_rfl) rfl rfl (h := ?_)
    iterate 5 refine AOL.s1 (h := ?_)
    refine AOL.nil ?_
    refine AW.kq [1, 7, 9, 11, 20] (h := ?_)
    repeat refine AW.seq ?_
    refine AW.drw 11 [] (by kernel_rfl) (h := ?_)
    iterate 4 refine ADL.dm 1 (h := ?_)
    refine ADL.call rfl (cS) (by kernel_rfl) rfl rfl (h := ?_)
    iterate 6 refine ADL.dm 1 (h := ?_)
    refine ADL.done hmix rfl rfl (hT := ?_)
    iterate 3 refine AOL.s1 (h := ?_)
    refine AOL.nil ?_
    refine AW.kq [6] (h := ?_)
    repeat refine AW.seq ?_
    refine AW.ret ?_
    refine ⟨_, [], rfl, HOk.nil _, ?_⟩
    rfl
set_option maxHeartbeats 16000000 in
theorem stays_po {s : Rk} {V : List Int} {x : Int} (hlt : light14 s = true) (lV : V.length ≤ 5000) (hV : wV V) {e : AV} (he : errL e) (cq : Fn Try.prog 15 [.agg (rk s), ul V] [] (fun r _ => r = .tup [ul [], e])) {na : Nat} {A0 : List Int} {za : Int} (hna : A0.length = na) (hna9 : na < 1000000000) (ca : Fn Try.prog 12 [.agg (rk s), u x] [] (Tells (.tup [.ref 1000 0 na 1, .dead, .dead, u za, nil_]) [(1000, blk A0)])) : Fn Try.prog 5 [.agg (rk s), ul V, u x] [] (fun r _ => r = bo true) := by
  have cu := obollaw14_up_c
  have cl := obolref14_Light_c (s := s)
  rw [hlt] at cl
  have cS := obolref13_Same_c hV hV (by omega)
  have hsame : sameF V V = true := by simp [sameF]
  rw [hsame] at cS
  have h5 : decide ((V.length : Int) > 5000) = false := by rw [decide_eq_false_iff_not]; omega
  have fl := fml V
  have a1 : V.length ≤ 140737488355328 := by omega
  have a2 : V.length * 8 ≤ 140737488355328 := by omega
  have a3 : V.length ≤ 4611686018427387904 := by omega
  have a4 : (0:Nat) ≤ 16777216 := by decide
  have hsV : sub 0 (V.length * 1) (fm u1 V) = fm u1 V := sub_all (Nat.le_of_eq (by rw [fml, Nat.mul_one]))
  have nt : (!true) = false := rfl
  have bf : (false || false) = false := rfl
  have tt : (true && true) = true := rfl
  have l00 : decide ((0:Int) < ((0:Nat):Int)) = false := rfl
  clear hlt hsame

  rcases he with rfl | ⟨n, rfl⟩ | ⟨k, rfl⟩
  · refine Fn.enter Try.func5 Try.ntmps5 rfl (h := ?_)
    have tf := tf
    have ot_ : (false || true) = true := rfl
    repeat refine AW.seq ?_
    refine AW.reg ?_
    iterate 2 refine AOL.s1 (h := ?_)
    refine AOL.nil ?_
    refine AW.kq [1, 2, 3] (h := ?_)
    repeat refine AW.seq ?_
    refine AW.reg ?_
    refine AOL.callD rfl (cu) (by kernel_rfl) rfl rfl (h := ?_)
    iterate 1 refine AOL.s1 (h := ?_)
    refine AOL.nil ?_
    refine AW.kq [1, 2, 3, 7] (h := ?_)
    repeat refine AW.seq ?_
    refine AW.reg ?_
    iterate 1 refine AOL.s1 (h := ?_)
    refine AOL.callD rfl (cl) (by kernel_rfl) rfl rfl (h := ?_)
    iterate 1 refine AOL.s1 (h := ?_)
    refine AOL.nil ?_
    refine AW.kq [1, 2, 3, 7, 8] (h := ?_)
    repeat refine AW.seq ?_
    refine AW.reg ?_
    iterate 7 refine AOL.s1 (h := ?_)
    refine AOL.nil ?_
    refine AW.kq [1, 2, 3, 7, 30] (h := ?_)
    repeat refine AW.seq ?_
    refine AW.cond rfl (fun c_ => ?_) (fun c_ => ?_)
    · cases c_
    refine AW.skip ?_
    repeat refine AW.seq ?_
    refine AW.reg ?_
    iterate 4 refine AOL.s1 (h := ?_)
    refine AOL.nil ?_
    refine AW.kq [1, 2, 3, 7, 9] (h := ?_)
    refine AW.fz 1512 rfl (fun h => by cases h) (h := ?_)
    rw [hsV]
    clear a1 a2 a3 a4 hsV h5 cu cl
    repeat refine AW.seq ?_
    refine AW.reg ?_
    iterate 2 refine AOL.s1 (h := ?_)
    refine AOL.callD rfl (cq) (by kernel_rfl) rfl rfl (h := ?_)
    iterate 5 refine AOL.s1 (h := ?_)
    refine AOL.nil ?_
    refine AW.kq [1, 2, 3, 7, 9, 10, 11] (h := ?_)
    repeat refine AW.seq ?_
    refine AW.reg ?_
    iterate 1 refine AOL.s1 (h := ?_)
    refine AOL.nil ?_
    refine AW.kq [1, 2, 3, 7, 9, 10, 11, 12] (h := ?_)
    repeat refine AW.seq ?_
    refine AW.block ?_
    repeat refine AW.seq ?_
    refine AW.rounds ?_
    refine AWin.next [1, 2, 3, 7, 9, 10, 11, 12] (h := ?_)
    repeat refine AW.seq ?_
    refine AW.reg ?_
    iterate 4 refine AOL.s1 (h := ?_)
    refine AOL.nil ?_
    refine AW.kq [1, 2, 3, 7, 9, 10, 11, 12, 44] (h := ?_)
    repeat refine AW.seq ?_
    refine AW.cond rfl (fun d_ => ?_) (fun d_ => ?_)
    · cases d_
    repeat refine AW.seq ?_
    refine AW.exit ?_
    repeat (first | refine Kseq.ex ?_ | refine Kloop.ex ?_ | refine Kblock.miss (by decide) ?_)
    refine Kblock.hit ?_
    refine AW.kq [1, 2, 3, 7, 9, 11] (h := ?_)
    repeat refine AW.seq ?_
    refine AW.reg ?_
    iterate 2 refine AOL.s1 (h := ?_)
    refine AOL.callO 6000 (ca) rfl (by kernel_rfl) rfl (by first | rfl | exact frees_fm (fun _ => rfl) _) (by intro l_ hl_; simp [labs, labss] at hl_ <;> exact hl_) (by decide) (by simp only [St.drop, mapT, mapH, kill, kills, del, St.put, ins, ren, rens, reduceIte, Nat.reduceLT, Nat.reduceEqDiff, Bool.false_eq_true]; exact rfl) ?_
    iterate 11 refine AOL.s1 (h := ?_)
    refine AOL.nil ?_
    refine AW.kq [1, 3, 7, 9, 11, 13] (h := ?_)
    repeat refine AW.seq ?_
    refine AW.reg ?_
    iterate 1 refine AOL.s1 (h := ?_)
    refine AOL.nil ?_
    refine AW.kq [1, 3, 7, 9, 11, 13, 18] (h := ?_)
    repeat refine AW.seq ?_
    refine AW.block ?_
    repeat refine AW.seq ?_
    refine AW.loopK [1, 3, 7, 9, 11, 13, 18] (fun n' s' => ∃ (j : Nat) (M : List Int), s' = ⟨87, [(1, ul V), (3, .ptr 1048 0), (7, bo true), (9, ul V), (11, nil_), (13, .ref 6000 0 na 1), (18, i j)], [(1048, ⟨25, true, rk s⟩), (6000, blk M)]⟩ ∧ j ≤ na ∧ n' = na - j ∧ M.length = na) na ?_ ?_
    · exact ⟨0, A0, rfl, Nat.zero_le _, rfl, hna⟩
    rintro n' s' ⟨j, M, rfl, jm, rfl, lM⟩
    replace lM := hid lM
    repeat refine AW.seq ?_
    refine AW.reg ?_
    iterate 4 refine AOL.s1 (h := ?_)
    refine AOL.nil ?_
    refine AW.kq [1, 3, 7, 9, 11, 13, 18, 62] (h := ?_)
    repeat refine AW.seq ?_
    refine AW.cond rfl (fun d_ => ?_) (fun d_ => ?_)
    · have lM' : M.length = na := lM
      have hj : j < na := by have : (j:Int) < na := by simpa using d_
                             omega
      have j0 : (0:Int) ≤ j := by omega
      have j1 : (j:Int) < na := by omega
      have hiw := inc_ hj (by omega)
      have hfs := fset M j 5
      have hfl := fml M
      have jl : j + 1 ≤ M.length := by omega
      have lM2 : Hid ((M.set j 5).length = na) := by show _ = _; rw [List.length_set]; exact lM
      generalize M.set j 5 = M2 at *
      clear lM' d_
      refine AW.skip ?_
      repeat refine AW.seq ?_
      refine AW.block ?_
      repeat refine AW.seq ?_
      refine AW.reg ?_
      iterate 4 refine AOL.s1 (h := ?_)
      refine AOL.nil ?_
      repeat refine AW.seq ?_
      refine AW.reg ?_
      iterate 3 refine AOL.s1 (h := ?_)
      refine AOL.nil ?_
      exact ⟨na - (j + 1), by omega, j + 1, M2, rfl, hj, rfl, lM2⟩
    repeat refine AW.seq ?_
    refine AW.exit ?_
    repeat (first | refine Kseq.ex ?_ | refine Kloop.ex ?_ | refine Kblock.miss (by decide) ?_)
    refine Kblock.hit ?_
    refine AW.kq [1, 3, 7, 9, 11] (h := ?_)
    refine AW.let 6000 (h := ?_)
    clear lM jm d_
    repeat refine AW.seq ?_
    refine AW.reg ?_
    iterate 2 refine AOL.s1 (h := ?_)
    refine AOL.callD rfl (cq) (by kernel_rfl) rfl rfl (h := ?_)
    iterate 5 refine AOL.s1 (h := ?_)
    refine AOL.nil ?_
    refine AW.kq [1, 7, 9, 11, 20] (h := ?_)
    repeat refine AW.seq ?_
    refine AW.drw 11 [] (by kernel_rfl) (h := ?_)
    iterate 4 refine ADL.dm 1 (h := ?_)
    refine ADL.call rfl (cS) (by kernel_rfl) rfl rfl (h := ?_)
    iterate 6 refine ADL.dm 1 (h := ?_)
    refine ADL.done hmix rfl rfl (hT := ?_)
    iterate 3 refine AOL.s1 (h := ?_)
    refine AOL.nil ?_
    refine AW.kq [6] (h := ?_)
    repeat refine AW.seq ?_
    refine AW.ret ?_
    refine ⟨_, [], rfl, HOk.nil _, ?_⟩
    rfl
  · refine Fn.enter Try.func5 Try.ntmps5 rfl (h := ?_)
    have tf := tf
    have ot_ : (false || true) = true := rfl
    repeat refine AW.seq ?_
    refine AW.reg ?_
    iterate 2 refine AOL.s1 (h := ?_)
    refine AOL.nil ?_
    refine AW.kq [1, 2, 3] (h := ?_)
    repeat refine AW.seq ?_
    refine AW.reg ?_
    refine AOL.callD rfl (cu) (by kernel_rfl) rfl rfl (h := ?_)
    iterate 1 refine AOL.s1 (h := ?_)
    refine AOL.nil ?_
    refine AW.kq [1, 2, 3, 7] (h := ?_)
    repeat refine AW.seq ?_
    refine AW.reg ?_
    iterate 1 refine AOL.s1 (h := ?_)
    refine AOL.callD rfl (cl) (by kernel_rfl) rfl rfl (h := ?_)
    iterate 1 refine AOL.s1 (h := ?_)
    refine AOL.nil ?_
    refine AW.kq [1, 2, 3, 7, 8] (h := ?_)
    repeat refine AW.seq ?_
    refine AW.reg ?_
    iterate 7 refine AOL.s1 (h := ?_)
    refine AOL.nil ?_
    refine AW.kq [1, 2, 3, 7, 30] (h := ?_)
    repeat refine AW.seq ?_
    refine AW.cond rfl (fun c_ => ?_) (fun c_ => ?_)
    · cases c_
    refine AW.skip ?_
    repeat refine AW.seq ?_
    refine AW.reg ?_
    iterate 4 refine AOL.s1 (h := ?_)
    refine AOL.nil ?_
    refine AW.kq [1, 2, 3, 7, 9] (h := ?_)
    refine AW.fz 1512 rfl (fun h => by cases h) (h := ?_)
    rw [hsV]
    clear a1 a2 a3 a4 hsV h5 cu cl
    repeat refine AW.seq ?_
    refine AW.reg ?_
    iterate 2 refine AOL.s1 (h := ?_)
    refine AOL.callD rfl (cq) (by kernel_rfl) rfl rfl (h := ?_)
    iterate 5 refine AOL.s1 (h := ?_)
    refine AOL.nil ?_
    refine AW.kq [1, 2, 3, 7, 9, 10, 11] (h := ?_)
    repeat refine AW.seq ?_
    refine AW.reg ?_
    iterate 1 refine AOL.s1 (h := ?_)
    refine AOL.nil ?_
    refine AW.kq [1, 2, 3, 7, 9, 10, 11, 12] (h := ?_)
    repeat refine AW.seq ?_
    refine AW.block ?_
    repeat refine AW.seq ?_
    refine AW.rounds ?_
    refine AWin.next [1, 2, 3, 7, 9, 10, 11, 12] (h := ?_)
    repeat refine AW.seq ?_
    refine AW.reg ?_
    iterate 4 refine AOL.s1 (h := ?_)
    refine AOL.nil ?_
    refine AW.kq [1, 2, 3, 7, 9, 10, 11, 12, 44] (h := ?_)
    repeat refine AW.seq ?_
    refine AW.cond rfl (fun d_ => ?_) (fun d_ => ?_)
    · cases d_
    repeat refine AW.seq ?_
    refine AW.exit ?_
    repeat (first | refine Kseq.ex ?_ | refine Kloop.ex ?_ | refine Kblock.miss (by decide) ?_)
    refine Kblock.hit ?_
    refine AW.kq [1, 2, 3, 7, 9, 11] (h := ?_)
    repeat refine AW.seq ?_
    refine AW.reg ?_
    iterate 2 refine AOL.s1 (h := ?_)
    refine AOL.callO 6000 (ca) rfl (by kernel_rfl) rfl (by first | rfl | exact frees_fm (fun _ => rfl) _) (by intro l_ hl_; simp [labs, labss] at hl_ <;> exact hl_) (by decide) (by simp only [St.drop, mapT, mapH, kill, kills, del, St.put, ins, ren, rens, reduceIte, Nat.reduceLT, Nat.reduceEqDiff, Bool.false_eq_true]; exact rfl) ?_
    iterate 11 refine AOL.s1 (h := ?_)
    refine AOL.nil ?_
    refine AW.kq [1, 3, 7, 9, 11, 13] (h := ?_)
    repeat refine AW.seq ?_
    refine AW.reg ?_
    iterate 1 refine AOL.s1 (h := ?_)
    refine AOL.nil ?_
    refine AW.kq [1, 3, 7, 9, 11, 13, 18] (h := ?_)
    repeat refine AW.seq ?_
    refine AW.block ?_
    repeat refine AW.seq ?_
    refine AW.loopK [1, 3, 7, 9, 11, 13, 18] (fun n' s' => ∃ (j : Nat) (M : List Int), s' = ⟨87, [(1, ul V), (3, .ptr 1048 0), (7, bo true), (9, ul V), (11, er n), (13, .ref 6000 0 na 1), (18, i j)], [(1048, ⟨25, true, rk s⟩), (6000, blk M)]⟩ ∧ j ≤ na ∧ n' = na - j ∧ M.length = na) na ?_ ?_
    · exact ⟨0, A0, rfl, Nat.zero_le _, rfl, hna⟩
    rintro n' s' ⟨j, M, rfl, jm, rfl, lM⟩
    replace lM := hid lM
    repeat refine AW.seq ?_
    refine AW.reg ?_
    iterate 4 refine AOL.s1 (h := ?_)
    refine AOL.nil ?_
    refine AW.kq [1, 3, 7, 9, 11, 13, 18, 62] (h := ?_)
    repeat refine AW.seq ?_
    refine AW.cond rfl (fun d_ => ?_) (fun d_ => ?_)
    · have lM' : M.length = na := lM
      have hj : j < na := by have : (j:Int) < na := by simpa using d_
                             omega
      have j0 : (0:Int) ≤ j := by omega
      have j1 : (j:Int) < na := by omega
      have hiw := inc_ hj (by omega)
      have hfs := fset M j 5
      have hfl := fml M
      have jl : j + 1 ≤ M.length := by omega
      have lM2 : Hid ((M.set j 5).length = na) := by show _ = _; rw [List.length_set]; exact lM
      generalize M.set j 5 = M2 at *
      clear lM' d_
      refine AW.skip ?_
      repeat refine AW.seq ?_
      refine AW.block ?_
      repeat refine AW.seq ?_
      refine AW.reg ?_
      iterate 4 refine AOL.s1 (h := ?_)
      refine AOL.nil ?_
      repeat refine AW.seq ?_
      refine AW.reg ?_
      iterate 3 refine AOL.s1 (h := ?_)
      refine AOL.nil ?_
      exact ⟨na - (j + 1), by omega, j + 1, M2, rfl, hj, rfl, lM2⟩
    repeat refine AW.seq ?_
    refine AW.exit ?_
    repeat (first | refine Kseq.ex ?_ | refine Kloop.ex ?_ | refine Kblock.miss (by decide) ?_)
    refine Kblock.hit ?_
    refine AW.kq [1, 3, 7, 9, 11] (h := ?_)
    refine AW.let 6000 (h := ?_)
    clear lM jm d_
    repeat refine AW.seq ?_
    refine AW.reg ?_
    iterate 2 refine AOL.s1 (h := ?_)
    refine AOL.callD rfl (cq) (by kernel_rfl) rfl rfl (h := ?_)
    iterate 5 refine AOL.s1 (h := ?_)
    refine AOL.nil ?_
    refine AW.kq [1, 7, 9, 11, 20] (h := ?_)
    repeat refine AW.seq ?_
    refine AW.drw 11 [] (by kernel_rfl) (h := ?_)
    iterate 4 refine ADL.dm 1 (h := ?_)
    refine ADL.call rfl (cS) (by kernel_rfl) rfl rfl (h := ?_)
    iterate 6 refine ADL.dm 1 (h := ?_)
    refine ADL.done hmix rfl rfl (hT := ?_)
    iterate 3 refine AOL.s1 (h := ?_)
    refine AOL.nil ?_
    refine AW.kq [6] (h := ?_)
    repeat refine AW.seq ?_
    refine AW.ret ?_
    refine ⟨_, [], rfl, HOk.nil _, ?_⟩
    rfl
  · refine Fn.enter Try.func5 Try.ntmps5 rfl (h := ?_)
    have tf := tf
    have ot_ : (false || true) = true := rfl
    repeat refine AW.seq ?_
    refine AW.reg ?_
    iterate 2 refine AOL.s1 (h := ?_)
    refine AOL.nil ?_
    refine AW.kq [1, 2, 3] (h := ?_)
    repeat refine AW.seq ?_
    refine AW.reg ?_
    refine AOL.callD rfl (cu) (by kernel_rfl) rfl rfl (h := ?_)
    iterate 1 refine AOL.s1 (h := ?_)
    refine AOL.nil ?_
    refine AW.kq [1, 2, 3, 7] (h := ?_)
    repeat refine AW.seq ?_
    refine AW.reg ?_
    iterate 1 refine AOL.s1 (h := ?_)
    refine AOL.callD rfl (cl) (by kernel_rfl) rfl rfl (h := ?_)
    iterate 1 refine AOL.s1 (h := ?_)
    refine AOL.nil ?_
    refine AW.kq [1, 2, 3, 7, 8] (h := ?_)
    repeat refine AW.seq ?_
    refine AW.reg ?_
    iterate 7 refine AOL.s1 (h := ?_)
    refine AOL.nil ?_
    refine AW.kq [1, 2, 3, 7, 30] (h := ?_)
    repeat refine AW.seq ?_
    refine AW.cond rfl (fun c_ => ?_) (fun c_ => ?_)
    · cases c_
    refine AW.skip ?_
    repeat refine AW.seq ?_
    refine AW.reg ?_
    iterate 4 refine AOL.s1 (h := ?_)
    refine AOL.nil ?_
    refine AW.kq [1, 2, 3, 7, 9] (h := ?_)
    refine AW.fz 1512 rfl (fun h => by cases h) (h := ?_)
    rw [hsV]
    clear a1 a2 a3 a4 hsV h5 cu cl
    repeat refine AW.seq ?_
    refine AW.reg ?_
    iterate 2 refine AOL.s1 (h := ?_)
    refine AOL.callD rfl (cq) (by kernel_rfl) rfl rfl (h := ?_)
    iterate 5 refine AOL.s1 (h := ?_)
    refine AOL.nil ?_
    refine AW.kq [1, 2, 3, 7, 9, 10, 11] (h := ?_)
    repeat refine AW.seq ?_
    refine AW.reg ?_
    iterate 1 refine AOL.s1 (h := ?_)
    refine AOL.nil ?_
    refine AW.kq [1, 2, 3, 7, 9, 10, 11, 12] (h := ?_)
    repeat refine AW.seq ?_
    refine AW.block ?_
    repeat refine AW.seq ?_
    refine AW.rounds ?_
    refine AWin.next [1, 2, 3, 7, 9, 10, 11, 12] (h := ?_)
    repeat refine AW.seq ?_
    refine AW.reg ?_
    iterate 4 refine AOL.s1 (h := ?_)
    refine AOL.nil ?_
    refine AW.kq [1, 2, 3, 7, 9, 10, 11, 12, 44] (h := ?_)
    repeat refine AW.seq ?_
    refine AW.cond rfl (fun d_ => ?_) (fun d_ => ?_)
    · cases d_
    repeat refine AW.seq ?_
    refine AW.exit ?_
    repeat (first | refine Kseq.ex ?_ | refine Kloop.ex ?_ | refine Kblock.miss (by decide) ?_)
    refine Kblock.hit ?_
    refine AW.kq [1, 2, 3, 7, 9, 11] (h := ?_)
    repeat refine AW.seq ?_
    refine AW.reg ?_
    iterate 2 refine AOL.s1 (h := ?_)
    refine AOL.callO 6000 (ca) rfl (by kernel_rfl) rfl (by first | rfl | exact frees_fm (fun _ => rfl) _) (by intro l_ hl_; simp [labs, labss] at hl_ <;> exact hl_) (by decide) (by simp only [St.drop, mapT, mapH, kill, kills, del, St.put, ins, ren, rens, reduceIte, Nat.reduceLT, Nat.reduceEqDiff, Bool.false_eq_true]; exact rfl) ?_
    iterate 11 refine AOL.s1 (h := ?_)
    refine AOL.nil ?_
    refine AW.kq [1, 3, 7, 9, 11, 13] (h := ?_)
    repeat refine AW.seq ?_
    refine AW.reg ?_
    iterate 1 refine AOL.s1 (h := ?_)
    refine AOL.nil ?_
    refine AW.kq [1, 3, 7, 9, 11, 13, 18] (h := ?_)
    repeat refine AW.seq ?_
    refine AW.block ?_
    repeat refine AW.seq ?_
    refine AW.loopK [1, 3, 7, 9, 11, 13, 18] (fun n' s' => ∃ (j : Nat) (M : List Int), s' = ⟨87, [(1, ul V), (3, .ptr 1048 0), (7, bo true), (9, ul V), (11, spot k 8), (13, .ref 6000 0 na 1), (18, i j)], [(1048, ⟨25, true, rk s⟩), (6000, blk M)]⟩ ∧ j ≤ na ∧ n' = na - j ∧ M.length = na) na ?_ ?_
    · exact ⟨0, A0, rfl, Nat.zero_le _, rfl, hna⟩
    rintro n' s' ⟨j, M, rfl, jm, rfl, lM⟩
    replace lM := hid lM
    repeat refine AW.seq ?_
    refine AW.reg ?_
    iterate 4 refine AOL.s1 (h := ?_)
    refine AOL.nil ?_
    refine AW.kq [1, 3, 7, 9, 11, 13, 18, 62] (h := ?_)
    repeat refine AW.seq ?_
    refine AW.cond rfl (fun d_ => ?_) (fun d_ => ?_)
    · have lM' : M.length = na := lM
      have hj : j < na := by have : (j:Int) < na := by simpa using d_
                             omega
      have j0 : (0:Int) ≤ j := by omega
      have j1 : (j:Int) < na := by omega
      have hiw := inc_ hj (by omega)
      have hfs := fset M j 5
      have hfl := fml M
      have jl : j + 1 ≤ M.length := by omega
      have lM2 : Hid ((M.set j 5).length = na) := by show _ = _; rw [List.length_set]; exact lM
      generalize M.set j 5 = M2 at *
      clear lM' d_
      refine AW.skip ?_
      repeat refine AW.seq ?_
      refine AW.block ?_
      repeat refine AW.seq ?_
      refine AW.reg ?_
      iterate 4 refine AOL.s1 (h := ?_)
      refine AOL.nil ?_
      repeat refine AW.seq ?_
      refine AW.reg ?_
      iterate 3 refine AOL.s1 (h := ?_)
      refine AOL.nil ?_
      exact ⟨na - (j + 1), by omega, j + 1, M2, rfl, hj, rfl, lM2⟩
    repeat refine AW.seq ?_
    refine AW.exit ?_
    repeat (first | refine Kseq.ex ?_ | refine Kloop.ex ?_ | refine Kblock.miss (by decide) ?_)
    refine Kblock.hit ?_
    refine AW.kq [1, 3, 7, 9, 11] (h := ?_)
    refine AW.let 6000 (h := ?_)
    clear lM jm d_
    repeat refine AW.seq ?_
    refine AW.reg ?_
    iterate 2 refine AOL.s1 (h := ?_)
    refine AOL.callD rfl (cq) (by kernel_rfl) rfl rfl (h := ?_)
    iterate 5 refine AOL.s1 (h := ?_)
    refine AOL.nil ?_
    refine AW.kq [1, 7, 9, 11, 20] (h := ?_)
    repeat refine AW.seq ?_
    refine AW.drw 11 [] (by kernel_rfl) (h := ?_)
    iterate 4 refine ADL.dm 1 (h := ?_)
    refine ADL.call rfl (cS) (by kernel_rfl) rfl rfl (h := ?_)
    iterate 6 refine ADL.dm 1 (h := ?_)
    refine ADL.done hmix rfl rfl (hT := ?_)
    iterate 3 refine AOL.s1 (h := ?_)
    refine AOL.nil ?_
    refine AW.kq [6] (h := ?_)
    repeat refine AW.seq ?_
    refine AW.ret ?_
    refine ⟨_, [], rfl, HOk.nil _, ?_⟩
    rfl
set_option maxHeartbeats 16000000 in
theorem stays_oo {s : Rk} {V : List Int} {x : Int} (hlt : light14 s = true) (lV : V.length ≤ 5000) (hV : wV V) {m : Nat} {L : List Int} (hm : m ≤ L.length) (hm9 : m < 1000000000) (cq : Fn Try.prog 15 [.agg (rk s), ul V] [] (Tells (.tup [.ref 1000 0 m 1, nil_]) [(1000, blk L)])) {na : Nat} {A0 : List Int} {za : Int} (hna : A0.length = na) (hna9 : na < 1000000000) (ca : Fn Try.prog 12 [.agg (rk s), u x] [] (Tells (.tup [.ref 1000 0 na 1, .dead, .dead, u za, nil_]) [(1000, blk A0)])) : Fn Try.prog 5 [.agg (rk s), ul V, u x] [] (fun r _ => r = bo true) := by
  have cu := obollaw14_up_c
  have cl := obolref14_Light_c (s := s)
  rw [hlt] at cl
  have cS := obolref13_Same_c hV hV (by omega)
  have hsame : sameF V V = true := by simp [sameF]
  rw [hsame] at cS
  have h5 : decide ((V.length : Int) > 5000) = false := by rw [decide_eq_false_iff_not]; omega
  have fl := fml V
  have a1 : V.length ≤ 140737488355328 := by omega
  have a2 : V.length * 8 ≤ 140737488355328 := by omega
  have a3 : V.length ≤ 4611686018427387904 := by omega
  have a4 : (0:Nat) ≤ 16777216 := by decide
  have hsV : sub 0 (V.length * 1) (fm u1 V) = fm u1 V := sub_all (Nat.le_of_eq (by rw [fml, Nat.mul_one]))
  have nt : (!true) = false := rfl
  have bf : (false || false) = false := rfl
  have tt : (true && true) = true := rfl
  have l00 : decide ((0:Int) < ((0:Nat):Int)) = false := rfl
  clear hlt hsame

  refine Fn.enter Try.func5 Try.ntmps5 rfl (h := ?_)
  have tf := tf
  have ot_ : (false || true) = true := rfl
  repeat refine AW.seq ?_
  refine AW.reg ?_
  iterate 2 refine AOL.s1 (h := ?_)
  refine AOL.nil ?_
  refine AW.kq [1, 2, 3] (h := ?_)
  repeat refine AW.seq ?_
  refine AW.reg ?_
  refine AOL.callD rfl (cu) (by kernel_rfl) rfl rfl (h := ?_)
  iterate 1 refine AOL.s1 (h := ?_)
  refine AOL.nil ?_
  refine AW.kq [1, 2, 3, 7] (h := ?_)
  repeat refine AW.seq ?_
  refine AW.reg ?_
  iterate 1 refine AOL.s1 (h := ?_)
  refine AOL.callD rfl (cl) (by kernel_rfl) rfl rfl (h := ?_)
  iterate 1 refine AOL.s1 (h := ?_)
  refine AOL.nil ?_
  refine AW.kq [1, 2, 3, 7, 8] (h := ?_)
  repeat refine AW.seq ?_
  refine AW.reg ?_
  iterate 7 refine AOL.s1 (h := ?_)
  refine AOL.nil ?_
  refine AW.kq [1, 2, 3, 7, 30] (h := ?_)
  repeat refine AW.seq ?_
  refine AW.cond rfl (fun c_ => ?_) (fun c_ => ?_)
  · cases c_
  refine AW.skip ?_
  repeat refine AW.seq ?_
  refine AW.reg ?_
  iterate 4 refine AOL.s1 (h := ?_)
  refine AOL.nil ?_
  refine AW.kq [1, 2, 3, 7, 9] (h := ?_)
  refine AW.fz 1512 rfl (fun h => by cases h) (h := ?_)
  rw [hsV]
  clear a1 a2 a3 a4 hsV h5 cu cl
  repeat refine AW.seq ?_
  refine AW.reg ?_
  iterate 2 refine AOL.s1 (h := ?_)
  refine AOL.callO 5000 (cq) rfl (by kernel_rfl) rfl (by first | rfl | exact frees_fm (fun _ => rfl) _) (by intro l_ hl_; simp [labs, labss] at hl_ <;> exact hl_) (by decide) (by simp only [St.drop, mapT, mapH, kill, kills, del, St.put, ins, ren, rens, reduceIte, Nat.reduceLT, Nat.reduceEqDiff, Bool.false_eq_true]; exact rfl) ?_
  iterate 5 refine AOL.s1 (h := ?_)
  refine AOL.nil ?_
  refine AW.kq [1, 2, 3, 7, 9, 10, 11] (h := ?_)
  repeat refine AW.seq ?_
  refine AW.reg ?_
  iterate 1 refine AOL.s1 (h := ?_)
  refine AOL.nil ?_
  refine AW.kq [1, 2, 3, 7, 9, 10, 11, 12] (h := ?_)
  repeat refine AW.seq ?_
  refine AW.block ?_
  repeat refine AW.seq ?_
  refine AW.loopK [1, 2, 3, 7, 9, 10, 11, 12] (fun n' s' => ∃ (j : Nat) (M : List Int), s' = ⟨87, [(1, ul V), (2, u x), (3, .ptr 1048 0), (7, bo true), (9, ul V), (10, .ref 5000 0 m 1), (11, nil_), (12, i j)], [(1048, ⟨25, true, rk s⟩), (5000, blk M)]⟩ ∧ j ≤ m ∧ n' = m - j ∧ M.length = L.length) m ?_ ?_
  · exact ⟨0, L, rfl, Nat.zero_le _, rfl, rfl⟩
  rintro n' s' ⟨j, M, rfl, jm, rfl, lM⟩
  replace lM := hid lM
  repeat refine AW.seq ?_
  refine AW.reg ?_
  iterate 4 refine AOL.s1 (h := ?_)
  refine AOL.nil ?_
  refine AW.kq [1, 2, 3, 7, 9, 10, 11, 12, 44] (h := ?_)
  repeat refine AW.seq ?_
  refine AW.cond rfl (fun d_ => ?_) (fun d_ => ?_)
  · have lM' : M.length = L.length := lM
    have hj : j < m := by have : (j:Int) < m := by simpa using d_
                          omega
    have j0 : (0:Int) ≤ j := by omega
    have j1 : (j:Int) < m := by omega
    have hiw := inc_ hj (by omega)
    have hfs := fset M j 5
    have hfl := fml M
    have jl : j + 1 ≤ M.length := by omega
    have lM2 : Hid ((M.set j 5).length = L.length) := by show _ = _; rw [List.length_set]; exact lM
    generalize M.set j 5 = M2 at *
    clear lM' d_
    refine AW.skip ?_
    repeat refine AW.seq ?_
    refine AW.block ?_
    repeat refine AW.seq ?_
    refine AW.reg ?_
    iterate 4 refine AOL.s1 (h := ?_)
    refine AOL.nil ?_
    repeat refine AW.seq ?_
    refine AW.reg ?_
    iterate 3 refine AOL.s1 (h := ?_)
    refine AOL.nil ?_
    exact ⟨m - (j + 1), by omega, j + 1, M2, rfl, hj, rfl, lM2⟩
  repeat refine AW.seq ?_
  refine AW.exit ?_
  repeat (first | refine Kseq.ex ?_ | refine Kloop.ex ?_ | refine Kblock.miss (by decide) ?_)
  refine Kblock.hit ?_
  refine AW.kq [1, 2, 3, 7, 9, 11] (h := ?_)
  refine AW.let 5000 (h := ?_)
  clear lM jm d_
  repeat refine AW.seq ?_
  refine AW.reg ?_
  iterate 2 refine AOL.s1 (h := ?_)
  refine AOL.callO 6000 (ca) rfl (by kernel_rfl) rfl (by first | rfl | exact frees_fm (fun _ => rfl) _) (by intro l_ hl_; simp [labs, labss] at hl_ <;> exact hl_) (by decide) (by simp only [St.drop, mapT, mapH, kill, kills, del, St.put, ins, ren, rens, reduceIte, Nat.reduceLT, Nat.reduceEqDiff, Bool.false_eq_true]; exact rfl) ?_
  iterate 11 refine AOL.s1 (h := ?_)
  refine AOL.nil ?_
  refine AW.kq [1, 3, 7, 9, 11, 13] (h := ?_)
  repeat refine AW.seq ?_
  refine AW.reg ?_
  iterate 1 refine AOL.s1 (h := ?_)
  refine AOL.nil ?_
  refine AW.kq [1, 3, 7, 9, 11, 13, 18] (h := ?_)
  repeat refine AW.seq ?_
  refine AW.block ?_
  repeat refine AW.seq ?_
  refine AW.loopK [1, 3, 7, 9, 11, 13, 18] (fun n' s' => ∃ (j : Nat) (M : List Int), s' = ⟨87, [(1, ul V), (3, .ptr 1048 0), (7, bo true), (9, ul V), (11, nil_), (13, .ref 6000 0 na 1), (18, i j)], [(1048, ⟨25, true, rk s⟩), (6000, blk M)]⟩ ∧ j ≤ na ∧ n' = na - j ∧ M.length = na) na ?_ ?_
  · exact ⟨0, A0, rfl, Nat.zero_le _, rfl, hna⟩
  rintro n' s' ⟨j, M, rfl, jm, rfl, lM⟩
  replace lM := hid lM
  repeat refine AW.seq ?_
  refine AW.reg ?_
  iterate 4 refine AOL.s1 (h := ?_)
  refine AOL.nil ?_
  refine AW.kq [1, 3, 7, 9, 11, 13, 18, 62] (h := ?_)
  repeat refine AW.seq ?_
  refine AW.cond rfl (fun d_ => ?_) (fun d_ => ?_)
  · have lM' : M.length = na := lM
    have hj : j < na := by have : (j:Int) < na := by simpa using d_
                           omega
    have j0 : (0:Int) ≤ j := by omega
    have j1 : (j:Int) < na := by omega
    have hiw := inc_ hj (by omega)
    have hfs := fset M j 5
    have hfl := fml M
    have jl : j + 1 ≤ M.length := by omega
    have lM2 : Hid ((M.set j 5).length = na) := by show _ = _; rw [List.length_set]; exact lM
    generalize M.set j 5 = M2 at *
    clear lM' d_
    refine AW.skip ?_
    repeat refine AW.seq ?_
    refine AW.block ?_
    repeat refine AW.seq ?_
    refine AW.reg ?_
    iterate 4 refine AOL.s1 (h := ?_)
    refine AOL.nil ?_
    repeat refine AW.seq ?_
    refine AW.reg ?_
    iterate 3 refine AOL.s1 (h := ?_)
    refine AOL.nil ?_
    exact ⟨na - (j + 1), by omega, j + 1, M2, rfl, hj, rfl, lM2⟩
  repeat refine AW.seq ?_
  refine AW.exit ?_
  repeat (first | refine Kseq.ex ?_ | refine Kloop.ex ?_ | refine Kblock.miss (by decide) ?_)
  refine Kblock.hit ?_
  refine AW.kq [1, 3, 7, 9, 11] (h := ?_)
  refine AW.let 6000 (h := ?_)
  clear lM jm d_
  repeat refine AW.seq ?_
  refine AW.reg ?_
  iterate 2 refine AOL.s1 (h := ?_)
  refine AOL.callO 7000 (cq) rfl (by kernel_rfl) rfl (by first | rfl | exact frees_fm (fun _ => rfl) _) (by intro l_ hl_; simp [labs, labss] at hl_ <;> exact hl_) (by decide) (by simp only [St.drop, mapT, mapH, kill, kills, del, St.put, ins, ren, rens, reduceIte, Nat.reduceLT, Nat.reduceEqDiff, Bool.false_eq_true]; exact rfl) ?_
  iterate 5 refine AOL.s1 (h := ?_)
  refine AOL.nil ?_
  refine AW.kq [1, 7, 9, 11, 20] (h := ?_)
  refine AW.let 7000 (h := ?_)
  repeat refine AW.seq ?_
  refine AW.drw 11 [] (by kernel_rfl) (h := ?_)
  iterate 4 refine ADL.dm 1 (h := ?_)
  refine ADL.call rfl (cS) (by kernel_rfl) rfl rfl (h := ?_)
  iterate 6 refine ADL.dm 1 (h := ?_)
  refine ADL.done hmix rfl rfl (hT := ?_)
  iterate 3 refine AOL.s1 (h := ?_)
  refine AOL.nil ?_
  refine AW.kq [6] (h := ?_)
  repeat refine AW.seq ?_
  refine AW.ret ?_
  refine ⟨_, [], rfl, HOk.nil _, ?_⟩
  rfl
set_option maxHeartbeats 16000000 in
theorem stays_oe {s : Rk} {V : List Int} {x : Int} (hlt : light14 s = true) (lV : V.length ≤ 5000) (hV : wV V) {m : Nat} {L : List Int} (hm : m ≤ L.length) (hm9 : m < 1000000000) (cq : Fn Try.prog 15 [.agg (rk s), ul V] [] (Tells (.tup [.ref 1000 0 m 1, nil_]) [(1000, blk L)])) (ca : Fn Try.prog 12 [.agg (rk s), u x] [] (fun r _ => r = .tup [.val (.slice none 0 0), .val (.slice none 0 0), .val (.slice none 0 0), u 0, er 3])) : Fn Try.prog 5 [.agg (rk s), ul V, u x] [] (fun r _ => r = bo true) := by
  have cu := obollaw14_up_c
  have cl := obolref14_Light_c (s := s)
  rw [hlt] at cl
  have cS := obolref13_Same_c hV hV (by omega)
  have hsame : sameF V V = true := by simp [sameF]
  rw [hsame] at cS
  have h5 : decide ((V.length : Int) > 5000) = false := by rw [decide_eq_false_iff_not]; omega
  have fl := fml V
  have a1 : V.length ≤ 140737488355328 := by omega
  have a2 : V.length * 8 ≤ 140737488355328 := by omega
  have a3 : V.length ≤ 4611686018427387904 := by omega
  have a4 : (0:Nat) ≤ 16777216 := by decide
  have hsV : sub 0 (V.length * 1) (fm u1 V) = fm u1 V := sub_all (Nat.le_of_eq (by rw [fml, Nat.mul_one]))
  have nt : (!true) = false := rfl
  have bf : (false || false) = false := rfl
  have tt : (true && true) = true := rfl
  have l00 : decide ((0:Int) < ((0:Nat):Int)) = false := rfl
  clear hlt hsame

  refine Fn.enter Try.func5 Try.ntmps5 rfl (h := ?_)
  have tf := tf
  have ot_ : (false || true) = true := rfl
  repeat refine AW.seq ?_
  refine AW.reg ?_
  iterate 2 refine AOL.s1 (h := ?_)
  refine AOL.nil ?_
  refine AW.kq [1, 2, 3] (h := ?_)
  repeat refine AW.seq ?_
  refine AW.reg ?_
  refine AOL.callD rfl (cu) (by kernel_rfl) rfl rfl (h := ?_)
  iterate 1 refine AOL.s1 (h := ?_)
  refine AOL.nil ?_
  refine AW.kq [1, 2, 3, 7] (h := ?_)
  repeat refine AW.seq ?_
  refine AW.reg ?_
  iterate 1 refine AOL.s1 (h := ?_)
  refine AOL.callD rfl (cl) (by kernel_rfl) rfl rfl (h := ?_)
  iterate 1 refine AOL.s1 (h := ?_)
  refine AOL.nil ?_
  refine AW.kq [1, 2, 3, 7, 8] (h := ?_)
  repeat refine AW.seq ?_
  refine AW.reg ?_
  iterate 7 refine AOL.s1 (h := ?_)
  refine AOL.nil ?_
  refine AW.kq [1, 2, 3, 7, 30] (h := ?_)
  repeat refine AW.seq ?_
  refine AW.cond rfl (fun c_ => ?_) (fun c_ => ?_)
  · cases c_
  refine AW.skip ?_
  repeat refine AW.seq ?_
  refine AW.reg ?_
  iterate 4 refine AOL.s1 (h := ?_)
  refine AOL.nil ?_
  refine AW.kq [1, 2, 3, 7, 9] (h := ?_)
  refine AW.fz 1512 rfl (fun h => by cases h) (h := ?_)
  rw [hsV]
  clear a1 a2 a3 a4 hsV h5 cu cl
  repeat refine AW.seq ?_
  refine AW.reg ?_
  iterate 2 refine AOL.s1 (h := ?_)
  refine AOL.callO 5000 (cq) rfl (by kernel_rfl) rfl (by first | rfl | exact frees_fm (fun _ => rfl) _) (by intro l_ hl_; simp [labs, labss] at hl_ <;> exact hl_) (by decide) (by simp only [St.drop, mapT, mapH, kill, kills, del, St.put, ins, ren, rens, reduceIte, Nat.reduceLT, Nat.reduceEqDiff, Bool.false_eq_true]; exact rfl) ?_
  iterate 5 refine AOL.s1 (h := ?_)
  refine AOL.nil ?_
  refine AW.kq [1, 2, 3, 7, 9, 10, 11] (h := ?_)
  repeat refine AW.seq ?_
  refine AW.reg ?_
  iterate 1 refine AOL.s1 (h := ?_)
  refine AOL.nil ?_
  refine AW.kq [1, 2, 3, 7, 9, 10, 11, 12] (h := ?_)
  repeat refine AW.seq ?_
  refine AW.block ?_
  repeat refine AW.seq ?_
  refine AW.loopK [1, 2, 3, 7, 9, 10, 11, 12] (fun n' s' => ∃ (j : Nat) (M : List Int), s' = ⟨87, [(1, ul V), (2, u x), (3, .ptr 1048 0), (7, bo true), (9, ul V), (10, .ref 5000 0 m 1), (11, nil_), (12, i j)], [(1048, ⟨25, true, rk s⟩), (5000, blk M)]⟩ ∧ j ≤ m ∧ n' = m - j ∧ M.length = L.length) m ?_ ?_
  · exact ⟨0, L, rfl, Nat.zero_le _, rfl, rfl⟩
  rintro n' s' ⟨j, M, rfl, jm, rfl, lM⟩
  replace lM := hid lM
  repeat refine AW.seq ?_
  refine AW.reg ?_
  iterate 4 refine AOL.s1 (h := ?_)
  refine AOL.nil ?_
  refine AW.kq [1, 2, 3, 7, 9, 10, 11, 12, 44] (h := ?_)
  repeat refine AW.seq ?_
  refine AW.cond rfl (fun d_ => ?_) (fun d_ => ?_)
  · have lM' : M.length = L.length := lM
    have hj : j < m := by have : (j:Int) < m := by simpa using d_
                          omega
    have j0 : (0:Int) ≤ j := by omega
    have j1 : (j:Int) < m := by omega
    have hiw := inc_ hj (by omega)
    have hfs := fset M j 5
    have hfl := fml M
    have jl : j + 1 ≤ M.length := by omega
    have lM2 : Hid ((M.set j 5).length = L.length) := by show _ = _; rw [List.length_set]; exact lM
    generalize M.set j 5 = M2 at *
    clear lM' d_
    refine AW.skip ?_
    repeat refine AW.seq ?_
    refine AW.block ?_
    repeat refine AW.seq ?_
    refine AW.reg ?_
    iterate 4 refine AOL.s1 (h := ?_)
    refine AOL.nil ?_
    repeat refine AW.seq ?_
    refine AW.reg ?_
    iterate 3 refine AOL.s1 (h := ?_)
    refine AOL.nil ?_
    exact ⟨m - (j + 1), by omega, j + 1, M2, rfl, hj, rfl, lM2⟩
  repeat refine AW.seq ?_
  refine AW.exit ?_
  repeat (first | refine Kseq.ex ?_ | refine Kloop.ex ?_ | refine Kblock.miss (by decide) ?_)
  refine Kblock.hit ?_
  refine AW.kq [1, 2, 3, 7, 9, 11] (h := ?_)
  refine AW.let 5000 (h := ?_)
  clear lM jm d_
  repeat refine AW.seq ?_
  refine AW.reg ?_
  iterate 2 refine AOL.s1 (h := ?_)
  refine AOL.callD rfl (ca) (by kernel_rfl) rfl rfl (h := ?_)
  iterate 11 refine AOL.s1 (h := ?_)
  refine AOL.nil ?_
  refine AW.kq [1, 3, 7, 9, 11, 13] (h := ?_)
  repeat refine AW.seq ?_
  refine AW.reg ?_
  iterate 1 refine AOL.s1 (h := ?_)
  refine AOL.nil ?_
  refine AW.kq [1, 3, 7, 9, 11, 13, 18] (h := ?_)
  refine AW.wk 13 rfl Wk.nilS (h := ?_)
  repeat refine AW.seq ?_
  refine AW.block ?_
  repeat refine AW.seq ?_
  refine AW.rounds ?_
  refine AWin.next [1, 3, 7, 9, 11, 13, 18] (h := ?_)
  repeat refine AW.seq ?_
  refine AW.reg ?_
  iterate 4 refine AOL.s1 (h := ?_)
  refine AOL.nil ?_
  refine AW.kq [1, 3, 7, 9, 11, 13, 18, 62] (h := ?_)
  repeat refine AW.seq ?_
  refine AW.cond rfl (fun f_ => ?_) (fun f_ => ?_)
  · cases f_
  repeat refine AW.seq ?_
  refine AW.exit ?_
  repeat (first | refine Kseq.ex ?_ | refine Kloop.ex ?_ | refine Kblock.miss (by decide) ?_)
  refine Kblock.hit ?_
  refine AW.kq [1, 3, 7, 9, 11] (h := ?_)
  repeat refine AW.seq ?_
  refine AW.reg ?_
  iterate 2 refine AOL.s1 (h := ?_)
  refine AOL.callO 7000 (cq) rfl (by kernel_rfl) rfl (by first | rfl | exact frees_fm (fun _ => rfl) _) (by intro l_ hl_; simp [labs, labss] at hl_ <;> exact hl_) (by decide) (by simp only [St.drop, mapT, mapH, kill, kills, del, St.put, ins, ren, rens, reduceIte, Nat.reduceLT, Nat.reduceEqDiff, Bool.false_eq_true]; exact rfl) ?_
  iterate 5 refine AOL.s1 (h := ?_)
  refine AOL.nil ?_
  refine AW.kq [1, 7, 9, 11, 20] (h := ?_)
  refine AW.let 7000 (h := ?_)
  repeat refine AW.seq ?_
  refine AW.drw 11 [] (by kernel_rfl) (h := ?_)
  iterate 4 refine ADL.dm 1 (h := ?_)
  refine ADL.call rfl (cS) (by kernel_rfl) rfl rfl (h := ?_)
  iterate 6 refine ADL.dm 1 (h := ?_)
  refine ADL.done hmix rfl rfl (hT := ?_)
  iterate 3 refine AOL.s1 (h := ?_)
  refine AOL.nil ?_
  refine AW.kq [6] (h := ?_)
  repeat refine AW.seq ?_
  refine AW.ret ?_
  refine ⟨_, [], rfl, HOk.nil _, ?_⟩
  rfl
set_option maxHeartbeats 4000000 in
theorem stays_no {s : Rk} {V : List Int} {x : Int} (h : light14 s = false ∨ (light14 s = true ∧ 5000 < V.length)) : Fn Try.prog 5 [.agg (rk s), ul V, u x] [] (fun r _ => r = bo true) := by
  have cu := obollaw14_up_c
  have cl := obolref14_Light_c (s := s)
  have nt : (!true) = false := rfl
  have nf : (!false) = true := rfl
  rcases h with h | ⟨h, hV⟩
  · rw [h] at cl
    clear h
    refine Fn.enter Try.func5 Try.ntmps5 rfl (h := ?_)
    have tf := tf
    repeat refine AW.seq ?_
    refine AW.reg ?_
    iterate 2 refine AOL.s1 (h := ?_)
    refine AOL.nil ?_
    refine AW.kq [1, 2, 3] (h := ?_)
    repeat refine AW.seq ?_
    refine AW.reg ?_
    refine AOL.callD rfl (cu) (by kernel_rfl) rfl rfl (h := ?_)
    iterate 1 refine AOL.s1 (h := ?_)
    refine AOL.nil ?_
    refine AW.kq [1, 2, 3, 7] (h := ?_)
    repeat refine AW.seq ?_
    refine AW.reg ?_
    iterate 1 refine AOL.s1 (h := ?_)
    refine AOL.callD rfl (cl) (by kernel_rfl) rfl rfl (h := ?_)
    iterate 1 refine AOL.s1 (h := ?_)
    refine AOL.nil ?_
    refine AW.kq [1, 2, 3, 7, 8] (h := ?_)
    repeat refine AW.seq ?_
    refine AW.reg ?_
    iterate 7 refine AOL.s1 (h := ?_)
    refine AOL.nil ?_
    refine AW.kq [1, 2, 3, 7, 30] (h := ?_)
    repeat refine AW.seq ?_
    refine AW.cond rfl (fun c_ => ?_) (fun c_ => ?_)
    · repeat refine AW.seq ?_
      refine AW.reg ?_
      iterate 2 refine AOL.s1 (h := ?_)
      refine AOL.nil ?_
      refine AW.kq [6] (h := ?_)
      repeat refine AW.seq ?_
      refine AW.ret ?_
      refine ⟨_, [], rfl, HOk.nil _, ?_⟩
      rfl
    cases c_
  · rw [h] at cl
    have h5 : decide ((V.length : Int) > 5000) = true := by rw [decide_eq_true_eq]; omega
    clear h hV
    refine Fn.enter Try.func5 Try.ntmps5 rfl (h := ?_)
    have tf := tf
    repeat refine AW.seq ?_
    refine AW.reg ?_
    iterate 2 refine AOL.s1 (h := ?_)
    refine AOL.nil ?_
    refine AW.kq [1, 2, 3] (h := ?_)
    repeat refine AW.seq ?_
    refine AW.reg ?_
    refine AOL.callD rfl (cu) (by kernel_rfl) rfl rfl (h := ?_)
    iterate 1 refine AOL.s1 (h := ?_)
    refine AOL.nil ?_
    refine AW.kq [1, 2, 3, 7] (h := ?_)
    repeat refine AW.seq ?_
    refine AW.reg ?_
    iterate 1 refine AOL.s1 (h := ?_)
    refine AOL.callD rfl (cl) (by kernel_rfl) rfl rfl (h := ?_)
    iterate 1 refine AOL.s1 (h := ?_)
    refine AOL.nil ?_
    refine AW.kq [1, 2, 3, 7, 8] (h := ?_)
    repeat refine AW.seq ?_
    refine AW.reg ?_
    iterate 7 refine AOL.s1 (h := ?_)
    refine AOL.nil ?_
    refine AW.kq [1, 2, 3, 7, 30] (h := ?_)
    repeat refine AW.seq ?_
    refine AW.cond rfl (fun c_ => ?_) (fun c_ => ?_)
    · repeat refine AW.seq ?_
      refine AW.reg ?_
      iterate 2 refine AOL.s1 (h := ?_)
      refine AOL.nil ?_
      refine AW.kq [6] (h := ?_)
      repeat refine AW.seq ?_
      refine AW.ret ?_
      refine ⟨_, [], rfl, HOk.nil _, ?_⟩
      rfl
    cases c_
theorem obollaw14_QapStays_c {s : Rk} {V : List Int} {x : Int} (hv : i64b s.v) (hW : wR s) (hV : wV V) (hx : w64 x) : Fn Try.prog 5 [.agg (rk s), ul V, u x] [] (fun r _ => r = bo true) := by
  cases hl : light14 s with
  | false => exact stays_no (.inl hl)
  | true =>
  rcases Nat.lt_or_ge 5000 V.length with h5 | h5
  · exact stays_no (.inr ⟨hl, h5⟩)
  have hlf : lightF s = true := by
    cases h : lightF s with
    | true => rfl
    | false => simp [light14, h] at hl
  obtain ⟨hS, _⟩ := light_len hlf
  have hq := quo_kinds hS hW hV (by omega)
  cases hc : chkF s with
  | false =>
    rcases hq with ⟨e, he, cq⟩ | ⟨m, L, h1, h2, cq⟩
    · exact stays_pe hl h5 hV he cq (qap_At_e hS hc)
    · exact stays_oe hl h5 hV h1 h2 cq (qap_At_e hS hc)
  | true =>
    obtain ⟨v1, v2, _, _⟩ := chk_v hc
    obtain ⟨n, hn⟩ := Int.eq_ofNat_of_zero_le (show 0 ≤ s.v by omega)
    have ca := qap_At_a hS hx hc hn
    have la : (atL Rw.a s x).length = n := by unfold atL; rw [atF_len, List.length_replicate, hn]; rfl
    rcases hq with ⟨e, he, cq⟩ | ⟨m, L, h1, h2, cq⟩
    · exact stays_po hl h5 hV he cq la (by omega) ca
    · exact stays_oo hl h5 hV h1 h2 cq la (by omega) ca

end Go.Proofs.Ytgcgkpeffjbneaa.E.M

