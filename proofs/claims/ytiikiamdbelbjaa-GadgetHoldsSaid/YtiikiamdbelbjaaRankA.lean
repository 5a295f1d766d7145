/- Systems of rows: whether one is sound, and its size; the program's and the document's: contracts over E. -/
import Derived.Test.YtiikiamdbelbjaaModI
import Derived.Test.YtiikiamdbelbjaaProg
import Derived.KernelRfl
set_option linter.unusedVariables false
set_option linter.unusedSimpArgs false
set_option maxRecDepth 10000
open Go Go.Proofs.Ytiikiamdbelbjaa.E Go.Proofs
namespace Go.Proofs.Ytiikiamdbelbjaa.E.M
abbrev TFr : Prop := tSz Try.prog 3 = some 1 ∧
    tAgg Try.prog 3 = some false ∧
    tBytes Try.prog 3 = some 8 ∧
    tZero Try.prog 3 = some [(.int .i64 0)] ∧
    tSlice Try.prog 3 = none ∧
    tInt Try.prog 3 = some .i64 ∧
    Try.prog.underlying 3 = some (.int .i64) ∧
    tIface Try.prog 3 = some false ∧
    tCls Try.prog 3 = .other ∧
    tSz Try.prog 4 = some 1 ∧
    tAgg Try.prog 4 = some false ∧
    tBytes Try.prog 4 = some 1 ∧
    tZero Try.prog 4 = some [(.bool false)] ∧
    tSlice Try.prog 4 = none ∧
    tIface Try.prog 4 = some false ∧
    tCls Try.prog 4 = .bool ∧
    tSz Try.prog 22 = some 1 ∧
    tAgg Try.prog 22 = some false ∧
    tBytes Try.prog 22 = some 8 ∧
    tZero Try.prog 22 = some [(.int .u64 0)] ∧
    tSlice Try.prog 22 = none ∧
    tInt Try.prog 22 = some .u64 ∧
    Try.prog.underlying 22 = some (.int .u64) ∧
    tIface Try.prog 22 = some false ∧
    tCls Try.prog 22 = .other ∧
    tSz Try.prog 27 = some 1 ∧
    tAgg Try.prog 27 = some false ∧
    tBytes Try.prog 27 = some 16 ∧
    tZero Try.prog 27 = some [.nilIface] ∧
    tSlice Try.prog 27 = none ∧
    tIface Try.prog 27 = some true ∧
    tCls Try.prog 27 = .iface ∧
    tSz Try.prog 62 = some 1 ∧
    tAgg Try.prog 62 = some false ∧
    tBytes Try.prog 62 = some 8 ∧
    tZero Try.prog 62 = some [(.int .i64 0)] ∧
    tSlice Try.prog 62 = none ∧
    tInt Try.prog 62 = some .i64 ∧
    Try.prog.underlying 62 = some (.int .i64) ∧
    tIface Try.prog 62 = some false ∧
    tCls Try.prog 62 = .other ∧
    tSz Try.prog 33 = some 3 ∧
    tAgg Try.prog 33 = some true ∧
    tBytes Try.prog 33 = some 40 ∧
    tZero Try.prog 33 = some [(.int .i64 0), (.int .i64 0), (.slice none 0 0)] ∧
    tSlice Try.prog 33 = none ∧
    tIface Try.prog 33 = some false ∧
    tCls Try.prog 33 = .other ∧
    tField Try.prog 33 0 = some (0, 3) ∧
    tField Try.prog 33 1 = some (1, 3) ∧
    tField Try.prog 33 2 = some (2, 31) ∧
    (∀ ps, aBuild Try.prog 33 ps = (aFill ([(0, 1), (1, 1), (2, 1)][·]?) [.val (.int .i64 0), .val (.int .i64 0), .val (.slice none 0 0)] ps).map .agg) ∧
    tSz Try.prog 31 = some 1 ∧
    tAgg Try.prog 31 = some false ∧
    tBytes Try.prog 31 = some 24 ∧
    tZero Try.prog 31 = some [(.slice none 0 0)] ∧
    tSlice Try.prog 31 = some 57 ∧
    Try.prog.underlying 31 = some (.slice 57) ∧
    tIface Try.prog 31 = some false ∧
    tCls Try.prog 31 = .slice ∧
    tSz Try.prog 57 = some 3 ∧
    tAgg Try.prog 57 = some true ∧
    tBytes Try.prog 57 = some 72 ∧
    tZero Try.prog 57 = some [(.slice none 0 0), (.slice none 0 0), (.slice none 0 0)] ∧
    tSlice Try.prog 57 = none ∧
    tIface Try.prog 57 = some false ∧
    tCls Try.prog 57 = .other ∧
    tField Try.prog 57 0 = some (0, 48) ∧
    tField Try.prog 57 1 = some (1, 48) ∧
    tField Try.prog 57 2 = some (2, 48) ∧
    (∀ ps, aBuild Try.prog 57 ps = (aFill ([(0, 1), (1, 1), (2, 1)][·]?) [.val (.slice none 0 0), .val (.slice none 0 0), .val (.slice none 0 0)] ps).map .agg) ∧
    tSz Try.prog 48 = some 1 ∧
    tAgg Try.prog 48 = some false ∧
    tBytes Try.prog 48 = some 24 ∧
    tZero Try.prog 48 = some [(.slice none 0 0)] ∧
    tSlice Try.prog 48 = some 55 ∧
    Try.prog.underlying 48 = some (.slice 55) ∧
    tIface Try.prog 48 = some false ∧
    tCls Try.prog 48 = .slice ∧
    tSz Try.prog 55 = some 2 ∧
    tAgg Try.prog 55 = some true ∧
    tBytes Try.prog 55 = some 16 ∧
    tZero Try.prog 55 = some [(.int .i64 0), (.int .u64 0)] ∧
    tSlice Try.prog 55 = none ∧
    tIface Try.prog 55 = some false ∧
    tCls Try.prog 55 = .other ∧
    tField Try.prog 55 0 = some (0, 3) ∧
    tField Try.prog 55 1 = some (1, 22) ∧
    (∀ ps, aBuild Try.prog 55 ps = (aFill ([(0, 1), (1, 1)][·]?) [.val (.int .i64 0), .val (.int .u64 0)] ps).map .agg) ∧
    tSz Try.prog 34 = some 1 ∧
    tAgg Try.prog 34 = some false ∧
    tBytes Try.prog 34 = some 24 ∧
    tZero Try.prog 34 = some [(.slice none 0 0)] ∧
    tSlice Try.prog 34 = some 22 ∧
    Try.prog.underlying 34 = some (.slice 22) ∧
    tIface Try.prog 34 = some false ∧
    tCls Try.prog 34 = .slice ∧
    tSz Try.prog 76 = some 2 ∧
    tAgg Try.prog 76 = some true ∧
    tBytes Try.prog 76 = some 24 ∧
    tZero Try.prog 76 = some [(.int .i64 0), .nilIface] ∧
    tSlice Try.prog 76 = none ∧
    tIface Try.prog 76 = some false ∧
    tCls Try.prog 76 = .other ∧
    tField Try.prog 76 0 = some (0, 3) ∧
    tField Try.prog 76 1 = some (1, 27) ∧
    (∀ ps, aBuild Try.prog 76 ps = (aFill ([(0, 1), (1, 1)][·]?) [.val (.int .i64 0), .val .nilIface] ps).map .agg) ∧
    tSz Try.prog 74 = some 1 ∧
    tAgg Try.prog 74 = some false ∧
    tBytes Try.prog 74 = some 8 ∧
    tZero Try.prog 74 = some [(.pointer none)] ∧
    tSlice Try.prog 74 = none ∧
    tIface Try.prog 74 = some false ∧
    tCls Try.prog 74 = .pointer
theorem tfr : TFr :=
  ⟨rfl, rfl, rfl, rfl, rfl, rfl, rfl, rfl, rfl, rfl, rfl, rfl, rfl, rfl, rfl, rfl, rfl, rfl, rfl, rfl, rfl, rfl, rfl, rfl, rfl, rfl, rfl, rfl, rfl, rfl, rfl, rfl, rfl, rfl, rfl, rfl, rfl, rfl, rfl, rfl, rfl, rfl, rfl, rfl, rfl, rfl, rfl, rfl, rfl, rfl, rfl, fun _ => rfl, rfl, rfl, rfl, rfl, rfl, rfl, rfl, rfl, rfl, rfl, rfl, rfl, rfl, rfl, rfl, rfl, rfl, rfl, fun _ => rfl, rfl, rfl, rfl, rfl, rfl, rfl, rfl, rfl, rfl, rfl, rfl, rfl, rfl, rfl, rfl, rfl, rfl, fun _ => rfl, rfl, rfl, rfl, rfl, rfl, rfl, rfl, rfl, rfl, rfl, rfl, rfl, rfl, rfl, rfl, rfl, rfl, fun _ => rfl, rfl, rfl, rfl, rfl, rfl, rfl, rfl⟩

structure Tm where
  v : Int
  k : Int
  deriving Inhabited
abbrev tm (t : Tm) : List AV := [i t.v, u t.k]
theorem tm_len (t : Tm) : (tm t).length = 2 := rfl
structure Rw where
  a : List Tm
  b : List Tm
  c : List Tm
  deriving Inhabited
abbrev rw_ (r : Rw) : List AV := [slF tm r.a, slF tm r.b, slF tm r.c]
theorem rw_len (r : Rw) : (rw_ r).length = 3 := rfl
structure Rk where
  v : Int
  p : Int
  l : List Rw
  deriving Inhabited
abbrev rk (s : Rk) : List AV := [i s.v, i s.p, slF rw_ s.l]
def sndF (vars : Int) : Int → List Tm → Bool
  | _, [] => true
  | last, t :: l => if t.v ≤ last ∨ t.v ≥ vars ∨ t.k < 1 ∨ t.k ≥ 288230376287764481 then false else sndF vars t.v l
theorem incq {k : Nat} {n : Nat} (h : k < n) (hn : n < 1000000000) : IntKind.i64.wrap ((k:Int) + 1) = ((k + 1 : Nat) : Int) := by
  rw [wrapI_o (by omega) (by omega)]; rfl
theorem dconsq {α : Type} {L : List α} {k : Nat} {a : α} {r : List α} (e : L.drop k = a :: r) : k < L.length ∧ L.drop (k + 1) = r ∧ L[k]? = some a := by
  have h : k < L.length := by
    rcases Nat.lt_or_ge k L.length with h | h
    · exact h
    · rw [List.drop_eq_nil_of_le h] at e; cases e
  refine ⟨h, by rw [← List.drop_drop, e]; rfl, ?_⟩
  have := congrArg (·[0]?) e
  simpa using this
theorem dnilq {α : Type} {L : List α} {k : Nat} (e : L.drop k = []) (h : k ≤ L.length) : k = L.length := by
  have := List.drop_eq_nil_iff.1 e; omega
def prevOk (L : List Tm) (k : Nat) (last : Int) : Prop := (k = 0 ∧ last = -1) ∨ (∃ j t, k = j + 1 ∧ L[j]? = some t ∧ t.v = last ∧ 0 ≤ last)
set_option maxHeartbeats 4000000 in
theorem rank_sound_c {L : List Tm} {vars : Int} (hL : L.length < 1000000000) : Fn Try.prog 45 [slF tm L, i vars] [] (fun r _ => r = bo (sndF vars (-1) L)) := by
  refine Fn.enter Try.func45 Try.ntmps45 rfl (h := ?_)
  have tf := tfr
  repeat refine AW.seq ?_
  refine AW.reg ?_
  iterate 1 refine AOL.s1 (h := ?_)
  refine AOL.nil ?_
  refine AW.kq [0, 1] (h := ?_)
  repeat refine AW.seq ?_
  refine AW.reg ?_
  iterate 3 refine AOL.s1 (h := ?_)
  refine AOL.nil ?_
  refine AW.kq [0, 1, 7, 8, 9] (h := ?_)
  repeat refine AW.seq ?_
  refine AW.block ?_
  repeat refine AW.seq ?_
  refine AW.loopK [0, 1, 7, 8, 9] (fun n s => ∃ (k : Nat) (last : Int) (r : List Tm), s = ⟨49, [(0, slF tm L), (1, i vars), (7, slF tm L), (8, i L.length), (9, i k)], []⟩ ∧ L.drop k = r ∧ k ≤ L.length ∧ n = r.length ∧ prevOk L k last ∧ sndF vars last r = sndF vars (-1) L) L.length ?_ ?_
  · exact ⟨0, -1, L, rfl, rfl, Nat.zero_le _, rfl, .inl ⟨rfl, rfl⟩, rfl⟩
  rintro n s ⟨k, last, r, rfl, hr, hkl, rfl, hp, hi⟩
  repeat refine AW.seq ?_
  refine AW.reg ?_
  iterate 1 refine AOL.s1 (h := ?_)
  refine AOL.nil ?_
  refine AW.kq [0, 1, 7, 8, 9, 10] (h := ?_)
  repeat refine AW.seq ?_
  refine AW.cond rfl (fun c_ => ?_) (fun c_ => ?_)
  · cases r with
    | nil => have := dnilq hr hkl; simp at c_; omega
    | cons t r =>
    obtain ⟨hlt, hr', ht⟩ := dconsq hr
    have hd : (fm tm L).drop (k * 2) = i t.v :: u t.k :: fm tm r := fm_drop tm_len hr
    have k0 : (0:Int) ≤ k := by omega
    have k1 : (k:Int) < L.length := by omega
    have hw := incq hlt hL
    have go : sndF vars last (t :: r) = sndF vars (-1) L := hi
    clear hr hi
    refine AW.skip ?_
    repeat refine AW.seq ?_
    refine AW.block ?_
    repeat refine AW.seq ?_
    refine AW.reg ?_
    iterate 6 refine AOL.s1 (h := ?_)
    refine AOL.nil ?_
    refine AW.kq [0, 1, 5, 6, 7, 8, 9] (h := ?_)
    repeat refine AW.seq ?_
    have bad : (t.v < 0 ∨ t.v ≥ vars ∨ t.k < 1 ∨ t.k ≥ 288230376287764481) → sndF vars (-1) L = false := by
      intro h
      rw [← go]
      simp only [sndF]
      rw [if_pos]
      rcases h with h | h
      · left
        rcases hp with ⟨_, rfl⟩ | ⟨_, _, _, _, _, h0⟩ <;> omega
      · exact .inr h
    have fine : ∀ b : Bool, ¬ t.v < 0 → ¬ t.v ≥ vars → ¬ t.k < 1 → ¬ t.k ≥ 288230376287764481 → b = decide (t.v ≤ last) → (b = true → sndF vars (-1) L = false) ∧ (b = false → sndF vars t.v r = sndF vars (-1) L) := by
      intro b a1 a2 a3 a4 hb
      constructor
      · intro h; rw [← go]; simp only [sndF]; rw [if_pos]; left; rw [hb] at h; simpa using h
      · intro h; rw [← go]; simp only [sndF]; rw [if_neg]
        rw [hb] at h
        simp at h
        omega
    have next : ¬ t.v < 0 → prevOk L (k + 1) t.v := fun h => .inr ⟨k, t, rfl, ht, rfl, by omega⟩
    clear go
    have hcs : (t.v < 0 ∨ (¬ t.v < 0 ∧ t.v ≥ vars) ∨ (¬ t.v < 0 ∧ ¬ t.v ≥ vars ∧ t.k < 1) ∨ (¬ t.v < 0 ∧ ¬ t.v ≥ vars ∧ ¬ t.k < 1 ∧ t.k ≥ 288230376287764481)) ∨ (¬ t.v < 0 ∧ ¬ t.v ≥ vars ∧ ¬ t.k < 1 ∧ ¬ t.k ≥ 288230376287764481) := by omega
    rcases hcs with hcs | ⟨a1, a2, a3, a4⟩
    · have hbad : sndF vars (-1) L = false := bad (by omega)
      clear bad fine next hp hd
      rcases hcs with a1 | ⟨a1, a2⟩ | ⟨a1, a2, a3⟩ | ⟨a1, a2, a3, a4⟩
      iterate 4
        · refine AW.drw 31 [] (by kernel_rfl) (h := ?_)
          iterate 31 refine ADL.dm 1 (h := ?_)
          refine ADL.done hmix rfl rfl (hT := ?_)
          iterate 3 refine AOL.s1 (h := ?_)
          refine AOL.nil ?_
          refine AW.kq [0, 1, 7, 8, 9, 47] (h := ?_)
          repeat refine AW.seq ?_
          refine AW.cond rfl (fun d_ => ?_) (fun d_ => ?_)
          · repeat refine AW.seq ?_
            refine AW.reg ?_
            iterate 1 refine AOL.s1 (h := ?_)
            refine AOL.nil ?_
            refine AW.kq [4] (h := ?_)
            repeat refine AW.seq ?_
            refine AW.ret ?_
            refine ⟨_, [], rfl, HOk.nil _, ?_⟩
            simp only [one?, hbad]
          · cases d_
    clear bad
    rcases hp with ⟨rfl, rfl⟩ | ⟨j, q, rfl, hq, rfl, q0⟩
    · obtain ⟨f1, f2⟩ := fine false a1 a2 a3 a4 (by simp; omega)
      have n1 := next a1
      clear fine next hd
      refine AW.drw 31 [] (by kernel_rfl) (h := ?_)
      iterate 31 refine ADL.dm 1 (h := ?_)
      refine ADL.done hmix rfl rfl (hT := ?_)
      iterate 3 refine AOL.s1 (h := ?_)
      refine AOL.nil ?_
      refine AW.kq [0, 1, 7, 8, 9, 47] (h := ?_)
      repeat refine AW.seq ?_
      refine AW.cond rfl (fun d_ => ?_) (fun d_ => ?_)
      · cases d_
      refine AW.skip ?_
      repeat refine AW.seq ?_
      refine AW.let 1096 (h := ?_)
      refine AW.reg ?_
      iterate 2 refine AOL.s1 (h := ?_)
      refine AOL.nil ?_
      exact ⟨r.length, by simp, _, _, r, rfl, hr', hlt, rfl, n1, f2 rfl⟩
    obtain ⟨f1, f2⟩ := fine (decide (t.v ≤ q.v)) a1 a2 a3 a4 rfl
    have n1 := next a1
    have hj : j < L.length := by omega
    have hq2 : (fm tm L).drop (j * 2) = i q.v :: u q.k :: fm tm (L.drop (j + 1)) := fm_drop tm_len (by rw [List.drop_eq_getElem_cons hj]; congr 1; rw [List.getElem?_eq_getElem hj] at hq; exact Option.some.inj hq)
    have j0 : ((j + 1 : Nat) : Int) > 0 := by omega
    have jw : IntKind.i64.wrap (((j + 1 : Nat) : Int) - 1) = (j : Int) := by rw [wrapI_o (by omega) (by omega)]; omega
    have j1 : (0:Int) ≤ j := by omega
    have j2 : (j:Int) < L.length := by omega
    clear fine next hd hq q0
    refine AW.drw 31 [] (by kernel_rfl) (h := ?_)
    iterate 31 refine ADL.dm 1 (h := ?_)
    refine ADL.done hmix rfl rfl (hT := ?_)
    iterate 3 refine AOL.s1 (h := ?_)
    refine AOL.nil ?_
    refine AW.kq [0, 1, 7, 8, 9, 47] (h := ?_)
    repeat refine AW.seq ?_
    refine AW.cond rfl (fun d_ => ?_) (fun d_ => ?_)
    · have hbad := f1 d_
      repeat refine AW.seq ?_
      refine AW.reg ?_
      iterate 1 refine AOL.s1 (h := ?_)
      refine AOL.nil ?_
      refine AW.kq [4] (h := ?_)
      repeat refine AW.seq ?_
      refine AW.ret ?_
      refine ⟨_, [], rfl, HOk.nil _, ?_⟩
      simp only [one?, hbad]
    refine AW.skip ?_
    repeat refine AW.seq ?_
    refine AW.let 1096 (h := ?_)
    refine AW.reg ?_
    iterate 2 refine AOL.s1 (h := ?_)
    refine AOL.nil ?_
    exact ⟨r.length, by simp, _, _, r, rfl, hr', hlt, rfl, n1, f2 d_⟩
  have : r = [] := by
    cases r with
    | nil => rfl
    | cons t r => have := (dconsq hr).1; simp at c_; omega
  subst this
  have hg : sndF vars (-1) L = true := hi.symm
  clear hi hp hr
  repeat refine AW.seq ?_
  refine AW.exit ?_
  repeat (first | refine Kseq.ex ?_ | refine Kloop.ex ?_ | refine Kblock.miss (by decide) ?_)
  refine Kblock.hit ?_
  refine AW.kq [] (h := ?_)
  repeat refine AW.seq ?_
  refine AW.reg ?_
  iterate 1 refine AOL.s1 (h := ?_)
  refine AOL.nil ?_
  refine AW.kq [4] (h := ?_)
  repeat refine AW.seq ?_
  refine AW.ret ?_
  refine ⟨_, [], rfl, HOk.nil _, ?_⟩
  simp only [one?, hg]
def rowF (vars : Int) (r : Rw) : Bool := sndF vars (-1) r.a && sndF vars (-1) r.b && sndF vars (-1) r.c
def rowsF (vars : Int) : List Rw → Bool
  | [] => true
  | r :: l => if rowF vars r then rowsF vars l else false
def badF (s : Rk) : Bool := decide (s.v < 1) || decide (s.v > 4096) || decide (s.p < 0) || decide (s.p ≥ s.v) || decide ((s.l.length : Int) > 4096)
def chkF (s : Rk) : Bool := if badF s then false else rowsF s.v s.l
abbrev Len (s : Rk) : Prop := s.l.length < 1000000000 ∧ ∀ r ∈ s.l, r.a.length < 1000000000 ∧ r.b.length < 1000000000 ∧ r.c.length < 1000000000
def erF (b : Bool) (n : Int) : AV := if b then nil_ else er n
set_option maxHeartbeats 1000000 in
theorem rank_Check_c {s : Rk} (hS : Len s) : Fn Try.prog 23 [.agg (rk s)] [] (fun r _ => r = erF (chkF s) 3) := by
  refine Fn.enter Try.func23 Try.ntmps23 rfl (h := ?_)
  have tf := tfr
  repeat refine AW.seq ?_
  refine AW.reg ?_
  iterate 2 refine AOL.s1 (h := ?_)
  refine AOL.nil ?_
  refine AW.kq [1] (h := ?_)
  repeat refine AW.seq ?_
  refine AW.reg ?_
  iterate 4 refine AOL.s1 (h := ?_)
  refine AOL.kq [1, 8] (h := ?_)
  refine AOL.or 8 12 (os' := ?_) (x := ?_) (h1 := ?_) (h0 := ?_) (h := ?_)
  rotate_left 2
  iterate 2
    · intro hb_ K' hK; (iterate 4 refine AOL.s1 (h := ?_)); refine AOL.kq [1, 12] (h := ?_); exact hK
  iterate 1 refine AOL.s1 (h := ?_)
  refine AOL.kq [1, 13] (h := ?_)
  refine AOL.or 13 17 (os' := ?_) (x := ?_) (h1 := ?_) (h0 := ?_) (h := ?_)
  rotate_left 2
  iterate 2
    · intro hb_ K' hK; (iterate 4 refine AOL.s1 (h := ?_)); refine AOL.kq [1, 17] (h := ?_); exact hK
  iterate 1 refine AOL.s1 (h := ?_)
  refine AOL.kq [1, 18] (h := ?_)
  refine AOL.or 18 24 (os' := ?_) (x := ?_) (h1 := ?_) (h0 := ?_) (h := ?_)
  rotate_left 2
  iterate 2
    · intro hb_ K' hK; (iterate 6 refine AOL.s1 (h := ?_)); refine AOL.kq [1, 24] (h := ?_); exact hK
  iterate 1 refine AOL.s1 (h := ?_)
  refine AOL.kq [1, 25] (h := ?_)
  refine AOL.or 25 30 (os' := ?_) (x := ?_) (h1 := ?_) (h0 := ?_) (h := ?_)
  rotate_left 2
  iterate 2
    · intro hb_ K' hK; (iterate 5 refine AOL.s1 (h := ?_)); refine AOL.kq [1, 30] (h := ?_); exact hK
  refine AOL.nil ?_
  refine AW.kq [1, 30] (h := ?_)
  repeat refine AW.seq ?_
  refine AW.cond rfl (fun c_ => ?_) (fun c_ => ?_)
  · have hb : chkF s = false := by unfold chkF; rw [if_pos (by exact c_)]
    repeat refine AW.seq ?_
    refine AW.reg ?_
    iterate 2 refine AOL.s1 (h := ?_)
    refine AOL.nil ?_
    refine AW.kq [2] (h := ?_)
    repeat refine AW.seq ?_
    refine AW.ret ?_
    refine ⟨_, [], rfl, HOk.nil _, ?_⟩
    simp only [one?, hb]; rfl
  have hb : chkF s = rowsF s.v s.l := by unfold chkF; rw [if_neg]; rw [show badF s = false from c_]; decide
  rw [hb]
  clear hb c_
  obtain ⟨hS1, hS2⟩ := hS
  obtain ⟨sv, sp, sl_⟩ := s
  simp only at hS1 hS2
  refine AW.skip ?_
  repeat refine AW.seq ?_
  refine AW.reg ?_
  iterate 4 refine AOL.s1 (h := ?_)
  refine AOL.nil ?_
  refine AW.kq [1, 33, 34, 35] (h := ?_)
  repeat refine AW.seq ?_
  refine AW.block ?_
  repeat refine AW.seq ?_
  refine AW.loopK [1, 33, 34, 35] (fun n s => ∃ (k : Nat) (r : List Rw), s = ⟨63, [(1, .ptr 1016 0), (33, slF rw_ sl_), (34, i sl_.length), (35, i k)], [(1016, ⟨33, true, [i sv, i sp, slF rw_ sl_]⟩)]⟩ ∧ sl_.drop k = r ∧ k ≤ sl_.length ∧ n = r.length ∧ rowsF sv r = rowsF sv sl_) sl_.length ?_ ?_
  · exact ⟨0, _, rfl, rfl, Nat.zero_le _, rfl, rfl⟩
  rintro n s ⟨k, r, rfl, hr, hkl, rfl, hi⟩
  repeat refine AW.seq ?_
  refine AW.reg ?_
  iterate 1 refine AOL.s1 (h := ?_)
  refine AOL.nil ?_
  refine AW.kq [1, 33, 34, 35, 36] (h := ?_)
  repeat refine AW.seq ?_
  refine AW.cond rfl (fun c_ => ?_) (fun c_ => ?_)
  · cases r with
    | nil => have := dnilq hr hkl; simp at c_; omega
    | cons t r =>
    obtain ⟨hlt, hr', ht⟩ := dconsq hr
    have hd : (fm rw_ sl_).drop (k * 3) = slF tm t.a :: slF tm t.b :: slF tm t.c :: fm rw_ r := fm_drop rw_len hr
    have k0 : (0:Int) ≤ k := by omega
    have k1 : (k:Int) < sl_.length := by omega
    have hw := incq hlt hS1
    obtain ⟨l1, l2, l3⟩ := hS2 t (List.mem_of_getElem? ht)
    have go : rowsF sv (t :: r) = rowsF sv sl_ := hi
    have go2 : (!sndF sv (-1) t.a || !sndF sv (-1) t.b || !sndF sv (-1) t.c) = true → rowsF sv sl_ = false := by
      intro h; rw [← go]; simp only [rowsF]; rw [if_neg]; simp [rowF] at h ⊢; grind
    have go3 : (!sndF sv (-1) t.a || !sndF sv (-1) t.b || !sndF sv (-1) t.c) = false → rowsF sv r = rowsF sv sl_ := by
      intro h; rw [← go]; simp only [rowsF]; rw [if_pos]; simp [rowF] at h ⊢; grind
    clear hr hi go ht hS2
    refine AW.skip ?_
    repeat refine AW.seq ?_
    refine AW.block ?_
    repeat refine AW.seq ?_
    refine AW.reg ?_
    iterate 4 refine AOL.s1 (h := ?_)
    refine AOL.nil ?_
    refine AW.kq [1, 4, 33, 34, 35] (h := ?_)
    repeat refine AW.seq ?_
    refine AW.reg ?_
    iterate 4 refine AOL.s1 (h := ?_)
    refine AOL.callD rfl (rank_sound_c l1) (by kernel_rfl) rfl rfl (h := ?_)
    iterate 2 refine AOL.s1 (h := ?_)
    refine AOL.kq [1, 4, 33, 34, 35, 45] (h := ?_)
    refine AOL.or 45 52 (os' := ?_) (x := ?_) (h1 := ?_) (h0 := ?_) (h := ?_)
    rotate_left 2
    iterate 2
      · intro hb_ K' hK; (first | (iterate 7 refine AOL.s1 (h := ?_)) | ((iterate 4 refine AOL.s1 (h := ?_)); refine AOL.callD rfl (rank_sound_c l2) (by kernel_rfl) rfl rfl (h := ?_); (iterate 2 refine AOL.s1 (h := ?_)))); refine AOL.kq [1, 4, 33, 34, 35, 52] (h := ?_); exact hK
    iterate 1 refine AOL.s1 (h := ?_)
    refine AOL.kq [1, 4, 33, 34, 35, 53] (h := ?_)
    refine AOL.or 53 60 (os' := ?_) (x := ?_) (h1 := ?_) (h0 := ?_) (h := ?_)
    rotate_left 2
    iterate 2
      · intro hb_ K' hK; (first | (iterate 7 refine AOL.s1 (h := ?_)) | ((iterate 4 refine AOL.s1 (h := ?_)); refine AOL.callD rfl (rank_sound_c l3) (by kernel_rfl) rfl rfl (h := ?_); (iterate 2 refine AOL.s1 (h := ?_)))); refine AOL.kq [1, 4, 33, 34, 35, 60] (h := ?_); exact hK
    refine AOL.nil ?_
    refine AW.kq [1, 33, 34, 35, 60] (h := ?_)
    repeat refine AW.seq ?_
    refine AW.cond rfl (fun d_ => ?_) (fun d_ => ?_)
    · have hbad := go2 d_
      repeat refine AW.seq ?_
      refine AW.reg ?_
      iterate 2 refine AOL.s1 (h := ?_)
      refine AOL.nil ?_
      refine AW.kq [2] (h := ?_)
      repeat refine AW.seq ?_
      refine AW.ret ?_
      refine ⟨_, [], rfl, HOk.nil _, ?_⟩
      simp only [one?, hbad]; rfl
    have hg := go3 d_
    clear go2 go3 d_
    refine AW.skip ?_
    repeat refine AW.seq ?_
    refine AW.let 1064 (h := ?_)
    refine AW.reg ?_
    iterate 2 refine AOL.s1 (h := ?_)
    refine AOL.nil ?_
    exact ⟨r.length, by simp, _, r, rfl, hr', hlt, rfl, hg⟩
  have : r = [] := by
    cases r with
    | nil => rfl
    | cons t r => have := (dconsq hr).1; simp at c_; omega
  subst this
  have hg : rowsF sv sl_ = true := hi.symm
  clear hi hr
  repeat refine AW.seq ?_
  refine AW.exit ?_
  repeat (first | refine Kseq.ex ?_ | refine Kloop.ex ?_ | refine Kblock.miss (by decide) ?_)
  refine Kblock.hit ?_
  refine AW.kq [] (h := ?_)
  repeat refine AW.seq ?_
  refine AW.reg ?_
  iterate 1 refine AOL.s1 (h := ?_)
  refine AOL.nil ?_
  refine AW.kq [2] (h := ?_)
  repeat refine AW.seq ?_
  refine AW.ret ?_
  refine ⟨_, [], rfl, HOk.nil _, ?_⟩
  simp only [one?, hg]; rfl
end Go.Proofs.Ytiikiamdbelbjaa.E.M

