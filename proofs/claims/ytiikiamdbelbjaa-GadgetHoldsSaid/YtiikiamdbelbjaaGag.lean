/- gadget: a new maker; its system and its values: contracts over E. -/
import Derived.Test.YtiikiamdbelbjaaGaf
import Derived.Test.YtiikiamdbelbjaaProg
import Derived.KernelRfl
set_option linter.unusedVariables false
set_option linter.unusedSimpArgs false
set_option maxRecDepth 10000
open Go Go.Proofs.Ytiikiamdbelbjaa.E Go.Proofs
namespace Go.Proofs.Ytiikiamdbelbjaa.E.M
abbrev mk0 : Mk := ⟨1, 0, [], [1]⟩
abbrev mkNew : List (Nat × Blk) := [(1000, mkB mk0 1001 1002), (1001, rwB []), (1002, vlB [1])]
set_option maxHeartbeats 1000000 in
theorem gadget_New_c : Fn Try.prog 9 [] [] (Tells (.ptr 1000 0) mkNew) := by
  refine Fn.enter Try.func9 Try.ntmps9 rfl (h := ?_)
  have tf := tfm
  have ot_ : (false || true) = true := rfl
  have tfr := tfr
  repeat refine AW.seq ?_
  refine AW.reg ?_
  iterate 1 refine AOL.s1 (h := ?_)
  refine AOL.nil ?_
  refine AW.kq [] (h := ?_)
  repeat refine AW.seq ?_
  refine AW.reg ?_
  iterate 5 refine AOL.s1 (h := ?_)
  refine AOL.nil ?_
  refine AW.kq [0] (h := ?_)
  repeat refine AW.seq ?_
  refine AW.blank 1001 57 (h := ?_)
  refine AW.wkh 1064 (cs' := [i 1, i 0, .ref 1001 0 0 3, .ref 1032 0 1 1]) rfl (Wks.cons (Wk.refl _) (Wks.cons (Wk.refl _) (Wks.cons (Wk.ref0 1001 3) (Wks.refl _)))) (fun h => by cases h) (h := ?_)
  refine AW.mv 1064 1000 (h := ?_)
  refine AW.mv 1032 1002 (h := ?_)
  refine AW.ret ?_
  refine ⟨_, mkNew, rfl, ?_, ?_⟩
  · intro p hp
    simp only [List.mem_cons, List.not_mem_nil, or_false] at hp
    rcases hp with rfl | rfl | rfl <;> simp [fm]
  · exact Tells.self
set_option maxHeartbeats 1000000 in
theorem clone_u {V : List Int} (hV : V ≠ []) (lV : V.length ≤ 1000000) : Fn Try.prog 34 [.ref 0 0 V.length 1] [(0, vlB V)] (Tells (.ref 1000 0 V.length 1) [(0, vlB V), (1000, vlB V)]) := by
  refine Fn.enter Try.func34 Try.ntmps34 rfl (h := ?_)
  have tf := tfm
  have ot_ : (false || true) = true := rfl
  have tfr := tfr
  have lc : (fm u1 V).length = V.length := by rw [fm_len u1_len, Nat.mul_one]
  have lt : (fm u1 V).take V.length = fm u1 V := List.take_of_length_le (Nat.le_of_eq lc)
  have a1 : V.length * 8 ≤ 140737488355328 := by omega
  have a2 : V.length ≤ 4611686018427387904 := by omega
  have ll : V.length ≤ V.length := Nat.le_refl _
  have hn : V.length ≠ 0 := fun h => hV (List.eq_nil_of_length_eq_zero h)
  repeat refine AW.seq ?_
  refine AW.reg ?_
  iterate 1 refine AOL.s1 (h := ?_)
  refine AOL.nil ?_
  refine AW.kq [0] (h := ?_)
  repeat refine AW.seq ?_
  refine AW.reg ?_
  iterate 1 refine AOL.s1 (h := ?_)
  refine AOL.eqNil rfl (h := ?_)
  intro b hb
  refine AOL.nil ?_
  refine AW.kq [0, 4] (h := ?_)
  repeat refine AW.seq ?_
  refine AW.cond rfl (fun c_ => ?_) (fun c_ => ?_)
  · exact absurd (hb (by simpa using c_)) hn
  refine AW.skip ?_
  repeat refine AW.seq ?_
  refine AW.reg ?_
  iterate 4 refine AOL.s1 (h := ?_)
  refine AOL.nil ?_
  refine AW.kq [2] (h := ?_)
  repeat refine AW.seq ?_
  refine AW.mv 1080 1000 (h := ?_)
  refine AW.ret ?_
  refine ⟨_, [(0, vlB V), (1000, vlB V)], rfl, ?_, ?_⟩
  · exact fun p hp => hp
  · exact Tells.self
theorem AOL.cloneU {ops : Array Oper} {o : Oper} {os : List Oper} {K : St → Prop} {st st' : St} {V : List Int} {l L : Nat} (hV : V ≠ []) (lV : V.length ≤ 1000000)
    (hc : callL st ops.toList o = some (34, [.ref l 0 V.length 1])) (h2 : get? l st.h = some (vlB V))
    (hst : ({ (st.drop L) with h := ins L (vlB V) (ins l (vlB V) (st.drop L).h) } : St).put o.dst (.ref L 0 V.length 1) = st' := by simp only [St.drop, mapT, mapH, kill, kills, del, St.put, ins, reduceIte, Nat.reduceLT, Nat.reduceEqDiff, Bool.false_eq_true]; exact rfl)
    (h : AOL Try.prog ops os K st') (hL : 1001 ≤ L ∧ L ≠ l := by decide) : AOL Try.prog ops (o :: os) K st := by
  have hne : fm u1 V ≠ [] := by intro e; have := fm_len u1_len V; rw [e] at this; cases V <;> simp_all
  obtain ⟨b, rfl⟩ : ∃ b, L = b + 1 := ⟨L - 1, by omega⟩
  refine AOL.callT (las := [.ref 0 0 V.length 1]) (hin := [(0, vlB V)]) [l] b (clone_u hV lV) hc ?_ (by kernel_rfl) ?_ ?_ ?_ ?_ h (by simp) (by simp) (by omega)
  · simp only [rens, ren, nth]
  · intro k hk; simp [labss, labs] at hk; subst hk; simp
  · intro p hp
    simp only [List.mem_singleton] at hp; subst hp
    refine ⟨by simp, ?_, ?_⟩
    · intro k hk; simp only [u1_labs] at hk; cases hk
    · simp only [nth, renB, u1_rens]; exact h2
  · refine ⟨?_, ?_, ?_, ?_, ?_⟩
    · intro p hp
      simp only [List.mem_cons, List.not_mem_nil, or_false] at hp
      rcases hp with rfl | rfl <;> simp
    · intro p hp
      simp only [List.mem_cons, List.not_mem_nil, or_false] at hp
      rcases hp with rfl | rfl <;> simp [hne]
    · intro k hk; simp [labs] at hk; subst hk; simp [hlabs]
    · intro p hp
      simp only [List.mem_cons, List.not_mem_nil, or_false] at hp
      rcases hp with rfl | rfl <;> (intro k hk; simp only [u1_labs] at hk; cases hk)
    · intro x hx y hy
      simp only [hlabs, List.map_cons, List.map_nil, List.mem_cons, List.not_mem_nil, or_false] at hx hy
      rcases hx with rfl | rfl <;> rcases hy with rfl | rfl <;> simp [sig, nth, pos] <;> omega
  · rw [← hst]
    simp only [St.after, consumed, newNames, get?, putH, sig, nth, pos, renB, rens, ren, u1_rens, Nat.reduceLT, Nat.reduceEqDiff, if_true, if_false, reduceIte, Nat.reduceAdd, Nat.zero_add, List.cons_append, List.nil_append, St.drops]
abbrev rok (L : List Rw) : Prop := ∀ r ∈ L, tok r.a ∧ tok r.b ∧ tok r.c
abbrev mkDone (m : Mk) : List (Nat × Blk) := [(0, mkB m 1001 1002), (1001, rwB m.rows), (1002, vlB m.vals), (1003, vlB m.vals)]
set_option maxHeartbeats 8000000 in
theorem gadget_Maker_Done_c {m : Mk} (hm : Mok 0 m) (hr : rok m.rows) : Fn Try.prog 12 [.ptr 0 0] [(0, mkB m 1 2), (1, rwB m.rows), (2, vlB m.vals)] (Tells (.tup [.agg [i m.v, i m.p, slF rw_ m.rows], .ref 1003 0 m.vals.length 1]) (mkDone m)) := by
  refine Fn.enter Try.func12 Try.ntmps12 rfl (h := ?_)
  have tf := tfm
  have ot_ : (false || true) = true := rfl
  have tfr := tfr
  have lR : m.rows.length ≤ 1000000 := by have := hm.2.1; omega
  have lV : m.vals.length ≤ 1000000 := by have := hm.1; omega
  have hV : m.vals ≠ [] := by have := hm.2.2.2; intro e; rw [e] at this; simp at this
  refine AW.mv 1 1001 (h := ?_)
  refine AW.mv 2 1002 (h := ?_)
  repeat refine AW.seq ?_
  refine AW.reg ?_
  iterate 2 refine AOL.s1 (h := ?_)
  refine AOL.nil ?_
  refine AW.kq [0, 2] (h := ?_)
  repeat refine AW.seq ?_
  refine AW.drw 12 [1064] (by kernel_rfl) (h := ?_)
  iterate 12 refine ADL.dm 1 (h := ?_)
  refine ADL.done hmix rfl rfl (hT := ?_)
  iterate 1 refine AOL.s1 (h := ?_)
  refine AOL.nil ?_
  refine AW.kq [0, 2, 4] (h := ?_)
  repeat refine AW.seq ?_
  refine AW.reg ?_
  iterate 7 refine AOL.s1 (h := ?_)
  refine AOL.nil ?_
  refine AW.kq [0, 2, 4, 22, 23, 24] (h := ?_)
  repeat refine AW.seq ?_
  refine AW.block ?_
  repeat refine AW.seq ?_
  refine AW.blank 9001 57 (h := ?_)
  refine AW.wkh 1064 (cs' := [i m.v, i m.p, .ref 9001 0 0 3]) rfl (Wks.cons (Wk.refl _) (Wks.cons (Wk.refl _) (Wks.cons (Wk.ref0 9001 3) Wks.nil))) (fun h => by cases h) (h := ?_)
  refine AW.loopK [0, 2, 4, 22, 23, 24] (fun n s => ∃ (k : Nat) (r : List Rw), s = ⟨50, [(0, .ptr 0 0), (2, .ptr 1032 0), (4, .ptr 1064 0), (22, .ref 1001 0 m.rows.length 3), (23, i m.rows.length), (24, i k)], [(0, mkB m 1001 1002), (1001, rwB m.rows), (1002, vlB m.vals), (1032, ⟨33, true, [i 0, i 0, .val (.slice none 0 0)]⟩), (1064, ⟨33, true, [i m.v, i m.p, .ref 9001 0 r.length 3]⟩), (9001, rwB r)]⟩ ∧ k ≤ m.rows.length ∧ n = m.rows.length - k ∧ id (r = m.rows.take k)) (m.rows.length) ?_ ?_
  · exact ⟨0, [], rfl, Nat.zero_le _, rfl, rfl⟩
  rintro n s ⟨k, r, rfl, hkl, rfl, hM⟩
  repeat refine AW.seq ?_
  refine AW.reg ?_
  iterate 1 refine AOL.s1 (h := ?_)
  refine AOL.nil ?_
  refine AW.kq [0, 2, 4, 22, 23, 24, 25] (h := ?_)
  repeat refine AW.seq ?_
  refine AW.cond rfl (fun c_ => ?_) (fun c_ => ?_)
  · have h1 : k < m.rows.length := by simpa using c_
    have k0 : (0:Int) ≤ k := by omega
    have k1 : (k:Int) < m.rows.length := by omega
    have hw := incq h1 (show m.rows.length < 1000000000 by omega)
    have hd : (fm rw_ m.rows).drop (k * 3) = slF tm m.rows[k].a :: slF tm m.rows[k].b :: slF tm m.rows[k].c :: fm rw_ (m.rows.drop (k + 1)) := fm_at rw_len h1
    obtain ⟨ta, tb, tc⟩ := hr m.rows[k] (List.getElem_mem h1)
    have cA := clone_fro ta
    have cB := clone_fro tb
    have cC := clone_fro tc
    have hrl : r.length = k := by rw [show r = _ from hM, List.length_take]; omega
    have hrn : id (r ++ [m.rows[k]] = m.rows.take (k + 1)) := by show _ = _; rw [show r = _ from hM, List.take_add_one, List.getElem?_eq_getElem h1]; rfl
    have lc : (fm rw_ r).length = k * 3 := by rw [fm_len rw_len, hrl]
    have a1 : (k + 1) * 72 ≤ 140737488355328 := by omega
    have a2 : k + 1 ≤ 4611686018427387904 := by omega
    have a3 : k ≤ 4611686018427387903 := by omega
    have hq : fm rw_ (r ++ [m.rows[k]]) = fm rw_ r ++ [slF tm m.rows[k].a, slF tm m.rows[k].b, slF tm m.rows[k].c] := fmr_snoc _ _
    clear hM c_
    generalize m.rows[k] = x at *
    obtain ⟨xa, xb, xc⟩ := x
    refine AW.skip ?_
    repeat refine AW.seq ?_
    refine AW.block ?_
    repeat refine AW.seq ?_
    refine AW.reg ?_
    iterate 4 refine AOL.s1 (h := ?_)
    refine AOL.nil ?_
    refine AW.kq [0, 2, 4, 6, 22, 23, 24] (h := ?_)
    repeat refine AW.seq ?_
    refine AW.drw 13 [1640] (by kernel_rfl) (h := ?_)
    iterate 4 refine ADL.dm 1 (h := ?_)
    refine ADL.call rfl (cA) (by kernel_rfl) rfl rfl (h := ?_)
    iterate 2 refine ADL.dm 1 (h := ?_)
    refine ADL.call rfl (cB) (by kernel_rfl) rfl rfl (h := ?_)
    iterate 2 refine ADL.dm 1 (h := ?_)
    refine ADL.call rfl (cC) (by kernel_rfl) rfl rfl (h := ?_)
    iterate 2 refine ADL.dm 1 (h := ?_)
    refine ADL.done hmix rfl rfl (hT := ?_)
    iterate 3 refine AOL.s1 (h := ?_)
    refine AOL.nil ?_
    repeat refine AW.seq ?_
    refine AW.let 1096 (h := ?_)
    refine AW.let 1640 (h := ?_)
    refine AW.reg ?_
    iterate 2 refine AOL.s1 (h := ?_)
    refine AOL.nil ?_
    refine ⟨m.rows.length - (k + 1), by omega, k + 1, r ++ [⟨xa, xb, xc⟩], ?_, h1, rfl, hrn⟩
    simp only [rwB, hq, List.length_append, List.length_singleton, hrl]; rfl
  · have hk : k = m.rows.length := by simp at c_; omega
    rw [hk, List.take_of_length_le (Nat.le_refl _)] at hM
    obtain rfl : r = m.rows := hM
    have hfl : AV.sl m.rows.length (sub 0 (m.rows.length * 3) (fm rw_ m.rows)) = slF rw_ m.rows := by rw [sub_all (by rw [fm_len rw_len]; exact Nat.le_refl _)]
    refine AW.fz 9001 rfl (fun h => by cases h) (h := ?_)
    rw [hfl]
    clear hfl hk c_
    repeat refine AW.seq ?_
    refine AW.exit ?_
    repeat (first | refine Kseq.ex ?_ | refine Kloop.ex ?_ | refine Kblock.miss (by decide) ?_)
    refine Kblock.hit ?_
    refine AW.kq [0, 2, 4] (h := ?_)
    repeat refine AW.seq ?_
    refine AW.anyO (st1 := ⟨50, [(2, .ptr 1032 0), (3, .ref 9101 0 m.vals.length 1)], [(0, mkB m 1001 1002), (1001, rwB m.rows), (1002, vlB m.vals), (1032, ⟨33, true, [i m.v, i m.p, slF rw_ m.rows]⟩), (9101, vlB m.vals)]⟩) hmix ?_ ?_
    · refine AAny.stepC [0, 1] (by kernel_rfl) rfl ?_
      refine AAllC.cons rfl rfl ?_ ?_
      · refine AOL.s1 (h := ?_)
        refine AOL.nil ?_
        refine AAny.stepC [1] (by kernel_rfl) rfl ?_
        refine AAllC.cons rfl rfl ?_ ?_
        · refine AOL.s1 (h := ?_)
          refine AOL.nil ?_
          refine AAny.stepC [2] (by kernel_rfl) rfl ?_
          refine AAllC.cons rfl rfl ?_ ?_
          · refine AOL.s1 (h := ?_)
            refine AOL.nil ?_
            refine AAny.stepC [3] (by kernel_rfl) rfl ?_
            refine AAllC.cons rfl rfl ?_ ?_
            · refine AOL.s1 (h := ?_)
              refine AOL.nil ?_
              refine AAny.stepC [4] (by kernel_rfl) rfl ?_
              refine AAllC.cons rfl rfl ?_ ?_
              · refine AOL.s1 (h := ?_)
                refine AOL.nil ?_
                refine AAny.stepC [5] (by kernel_rfl) rfl ?_
                refine AAllC.cons rfl rfl ?_ ?_
                · refine AOL.cloneU (l := 1002) (L := 9101) hV lV ?_ ?_ (h := ?_)
                  · rfl
                  · rfl
                  refine AOL.nil ?_
                  refine AAny.stepC [6] (by kernel_rfl) rfl ?_
                  refine AAllC.cons rfl rfl ?_ ?_
                  · refine AOL.s1 (h := ?_)
                    refine AOL.nil ?_
                    refine AAny.stepC [7] (by kernel_rfl) rfl ?_
                    refine AAllC.cons rfl rfl ?_ ?_
                    · iterate 1 refine AOL.s1 (h := ?_)
                      refine AOL.kq [2, 3] (h := ?_)
                      refine AOL.let 1064 (h := ?_)
                      refine AOL.nil ?_
                      exact AAny.done (by kernel_rfl) rfl
                    exact AAllC.nil
                  exact AAllC.nil
                exact AAllC.nil
              exact AAllC.nil
            exact AAllC.nil
          exact AAllC.nil
        exact AAllC.nil
      refine AAllC.cons rfl rfl ?_ ?_
      · refine AOL.s1 (h := ?_)
        refine AOL.nil ?_
        refine AAny.stepC [0, 2] (by kernel_rfl) rfl ?_
        refine AAllC.cons rfl rfl ?_ ?_
        · refine AOL.s1 (h := ?_)
          refine AOL.nil ?_
          refine AAny.stepC [2] (by kernel_rfl) rfl ?_
          refine AAllC.cons rfl rfl ?_ ?_
          · refine AOL.s1 (h := ?_)
            refine AOL.nil ?_
            refine AAny.stepC [3] (by kernel_rfl) rfl ?_
            refine AAllC.cons rfl rfl ?_ ?_
            · refine AOL.s1 (h := ?_)
              refine AOL.nil ?_
              refine AAny.stepC [4] (by kernel_rfl) rfl ?_
              refine AAllC.cons rfl rfl ?_ ?_
              · refine AOL.s1 (h := ?_)
                refine AOL.nil ?_
                refine AAny.stepC [5] (by kernel_rfl) rfl ?_
                refine AAllC.cons rfl rfl ?_ ?_
                · refine AOL.cloneU (l := 1002) (L := 9101) hV lV ?_ ?_ (h := ?_)
                  · rfl
                  · rfl
                  refine AOL.nil ?_
                  refine AAny.stepC [6] (by kernel_rfl) rfl ?_
                  refine AAllC.cons rfl rfl ?_ ?_
                  · refine AOL.s1 (h := ?_)
                    refine AOL.nil ?_
                    refine AAny.stepC [7] (by kernel_rfl) rfl ?_
                    refine AAllC.cons rfl rfl ?_ ?_
                    · iterate 1 refine AOL.s1 (h := ?_)
                      refine AOL.kq [2, 3] (h := ?_)
                      refine AOL.let 1064 (h := ?_)
                      refine AOL.nil ?_
                      exact AAny.done (by kernel_rfl) rfl
                    exact AAllC.nil
                  exact AAllC.nil
                exact AAllC.nil
              exact AAllC.nil
            exact AAllC.nil
          exact AAllC.nil
        refine AAllC.cons rfl rfl ?_ ?_
        · refine AOL.s1 (h := ?_)
          refine AOL.nil ?_
          refine AAny.stepC [0, 3] (by kernel_rfl) rfl ?_
          refine AAllC.cons rfl rfl ?_ ?_
          · refine AOL.s1 (h := ?_)
            refine AOL.nil ?_
            refine AAny.stepC [3] (by kernel_rfl) rfl ?_
            refine AAllC.cons rfl rfl ?_ ?_
            · refine AOL.s1 (h := ?_)
              refine AOL.nil ?_
              refine AAny.stepC [4] (by kernel_rfl) rfl ?_
              refine AAllC.cons rfl rfl ?_ ?_
              · refine AOL.s1 (h := ?_)
                refine AOL.nil ?_
                refine AAny.stepC [5] (by kernel_rfl) rfl ?_
                refine AAllC.cons rfl rfl ?_ ?_
                · refine AOL.cloneU (l := 1002) (L := 9101) hV lV ?_ ?_ (h := ?_)
                  · rfl
                  · rfl
                  refine AOL.nil ?_
                  refine AAny.stepC [6] (by kernel_rfl) rfl ?_
                  refine AAllC.cons rfl rfl ?_ ?_
                  · refine AOL.s1 (h := ?_)
                    refine AOL.nil ?_
                    refine AAny.stepC [7] (by kernel_rfl) rfl ?_
                    refine AAllC.cons rfl rfl ?_ ?_
                    · iterate 1 refine AOL.s1 (h := ?_)
                      refine AOL.kq [2, 3] (h := ?_)
                      refine AOL.let 1064 (h := ?_)
                      refine AOL.nil ?_
                      exact AAny.done (by kernel_rfl) rfl
                    exact AAllC.nil
                  exact AAllC.nil
                exact AAllC.nil
              exact AAllC.nil
            exact AAllC.nil
          refine AAllC.cons rfl rfl ?_ ?_
          · refine AOL.s1 (h := ?_)
            refine AOL.nil ?_
            refine AAny.stepC [0, 4] (by kernel_rfl) rfl ?_
            refine AAllC.cons rfl rfl ?_ ?_
            · refine AOL.s1 (h := ?_)
              refine AOL.nil ?_
              refine AAny.stepC [4] (by kernel_rfl) rfl ?_
              refine AAllC.cons rfl rfl ?_ ?_
              · refine AOL.s1 (h := ?_)
                refine AOL.nil ?_
                refine AAny.stepC [5] (by kernel_rfl) rfl ?_
                refine AAllC.cons rfl rfl ?_ ?_
                · refine AOL.cloneU (l := 1002) (L := 9101) hV lV ?_ ?_ (h := ?_)
                  · rfl
                  · rfl
                  refine AOL.nil ?_
                  refine AAny.stepC [6] (by kernel_rfl) rfl ?_
                  refine AAllC.cons rfl rfl ?_ ?_
                  · refine AOL.s1 (h := ?_)
                    refine AOL.nil ?_
                    refine AAny.stepC [7] (by kernel_rfl) rfl ?_
                    refine AAllC.cons rfl rfl ?_ ?_
                    · iterate 1 refine AOL.s1 (h := ?_)
                      refine AOL.kq [2, 3] (h := ?_)
                      refine AOL.let 1064 (h := ?_)
                      refine AOL.nil ?_
                      exact AAny.done (by kernel_rfl) rfl
                    exact AAllC.nil
                  exact AAllC.nil
                exact AAllC.nil
              exact AAllC.nil
            refine AAllC.cons rfl rfl ?_ ?_
            · refine AOL.s1 (h := ?_)
              refine AOL.nil ?_
              refine AAny.stepC [0, 5] (by kernel_rfl) rfl ?_
              refine AAllC.cons rfl rfl ?_ ?_
              · refine AOL.s1 (h := ?_)
                refine AOL.nil ?_
                refine AAny.stepC [5] (by kernel_rfl) rfl ?_
                refine AAllC.cons rfl rfl ?_ ?_
                · refine AOL.cloneU (l := 1002) (L := 9101) hV lV ?_ ?_ (h := ?_)
                  · rfl
                  · rfl
                  refine AOL.nil ?_
                  refine AAny.stepC [6] (by kernel_rfl) rfl ?_
                  refine AAllC.cons rfl rfl ?_ ?_
                  · refine AOL.s1 (h := ?_)
                    refine AOL.nil ?_
                    refine AAny.stepC [7] (by kernel_rfl) rfl ?_
                    refine AAllC.cons rfl rfl ?_ ?_
                    · iterate 1 refine AOL.s1 (h := ?_)
                      refine AOL.kq [2, 3] (h := ?_)
                      refine AOL.let 1064 (h := ?_)
                      refine AOL.nil ?_
                      exact AAny.done (by kernel_rfl) rfl
                    exact AAllC.nil
                  exact AAllC.nil
                exact AAllC.nil
              refine AAllC.cons rfl rfl ?_ ?_
              · refine AOL.cloneU (l := 1002) (L := 9101) hV lV ?_ ?_ (h := ?_)
                · rfl
                · rfl
                refine AOL.nil ?_
                refine AAny.stepC [0] (by kernel_rfl) rfl ?_
                refine AAllC.cons rfl rfl ?_ ?_
                · refine AOL.s1 (h := ?_)
                  refine AOL.nil ?_
                  refine AAny.stepC [6] (by kernel_rfl) rfl ?_
                  refine AAllC.cons rfl rfl ?_ ?_
                  · refine AOL.s1 (h := ?_)
                    refine AOL.nil ?_
                    refine AAny.stepC [7] (by kernel_rfl) rfl ?_
                    refine AAllC.cons rfl rfl ?_ ?_
                    · iterate 1 refine AOL.s1 (h := ?_)
                      refine AOL.kq [2, 3] (h := ?_)
                      refine AOL.let 1064 (h := ?_)
                      refine AOL.nil ?_
                      exact AAny.done (by kernel_rfl) rfl
                    exact AAllC.nil
                  exact AAllC.nil
                exact AAllC.nil
              exact AAllC.nil
            exact AAllC.nil
          exact AAllC.nil
        exact AAllC.nil
      exact AAllC.nil
    skip
    skip
    skip
    skip
    skip
    refine AW.kq [2, 3] (h := ?_)
    repeat refine AW.seq ?_
    refine AW.mv 9101 1003 (h := ?_)
    refine AW.ret ?_
    refine ⟨_, mkDone m, rfl, ?_, ?_⟩
    · intro p hp
      simp only [List.mem_cons, List.not_mem_nil, or_false] at hp
      rcases hp with rfl | rfl | rfl | rfl <;> simp
    · exact Tells.self
end Go.Proofs.Ytiikiamdbelbjaa.E.M

