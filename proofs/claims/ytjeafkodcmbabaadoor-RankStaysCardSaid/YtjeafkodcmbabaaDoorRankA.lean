/- Systems of rows: whether one is sound, and its size; the program's and the document's: contracts over E. -/
import Derived.Test.YtjeafkodcmbabaaDoorModI
import Derived.Test.YtjeafkodcmbabaaDoorProg
import Derived.KernelRfl
set_option linter.unusedVariables false
set_option linter.unusedSimpArgs false
set_option maxRecDepth 10000
open Go Go.Proofs.YtjeafkodcmbabaaDoor.E Go.Proofs
namespace Go.Proofs.YtjeafkodcmbabaaDoor.E.M
abbrev TFr : Prop := tSz Tryd.prog 3 = some 1 ∧
    tAgg Tryd.prog 3 = some false ∧
    tBytes Tryd.prog 3 = some 8 ∧
    tZero Tryd.prog 3 = some [(.int .i64 0)] ∧
    tSlice Tryd.prog 3 = none ∧
    tInt Tryd.prog 3 = some .i64 ∧
    Tryd.prog.underlying 3 = some (.int .i64) ∧
    tIface Tryd.prog 3 = some false ∧
    tCls Tryd.prog 3 = .other ∧
    tSz Tryd.prog 4 = some 1 ∧
    tAgg Tryd.prog 4 = some false ∧
    tBytes Tryd.prog 4 = some 1 ∧
    tZero Tryd.prog 4 = some [(.bool false)] ∧
    tSlice Tryd.prog 4 = none ∧
    tIface Tryd.prog 4 = some false ∧
    tCls Tryd.prog 4 = .bool ∧
    tSz Tryd.prog 36 = some 1 ∧
    tAgg Tryd.prog 36 = some false ∧
    tBytes Tryd.prog 36 = some 8 ∧
    tZero Tryd.prog 36 = some [(.int .u64 0)] ∧
    tSlice Tryd.prog 36 = none ∧
    tInt Tryd.prog 36 = some .u64 ∧
    Tryd.prog.underlying 36 = some (.int .u64) ∧
    tIface Tryd.prog 36 = some false ∧
    tCls Tryd.prog 36 = .other ∧
    tSz Tryd.prog 32 = some 1 ∧
    tAgg Tryd.prog 32 = some false ∧
    tBytes Tryd.prog 32 = some 16 ∧
    tZero Tryd.prog 32 = some [.nilIface] ∧
    tSlice Tryd.prog 32 = none ∧
    tIface Tryd.prog 32 = some true ∧
    tCls Tryd.prog 32 = .iface ∧
    tSz Tryd.prog 44 = some 1 ∧
    tAgg Tryd.prog 44 = some false ∧
    tBytes Tryd.prog 44 = some 8 ∧
    tZero Tryd.prog 44 = some [(.int .i64 0)] ∧
    tSlice Tryd.prog 44 = none ∧
    tInt Tryd.prog 44 = some .i64 ∧
    Tryd.prog.underlying 44 = some (.int .i64) ∧
    tIface Tryd.prog 44 = some false ∧
    tCls Tryd.prog 44 = .other ∧
    tSz Tryd.prog 24 = some 3 ∧
    tAgg Tryd.prog 24 = some true ∧
    tBytes Tryd.prog 24 = some 40 ∧
    tZero Tryd.prog 24 = some [(.int .i64 0), (.int .i64 0), (.slice none 0 0)] ∧
    tSlice Tryd.prog 24 = none ∧
    tIface Tryd.prog 24 = some false ∧
    tCls Tryd.prog 24 = .other ∧
    tField Tryd.prog 24 0 = some (0, 3) ∧
    tField Tryd.prog 24 1 = some (1, 3) ∧
    tField Tryd.prog 24 2 = some (2, 22) ∧
    (∀ ps, aBuild Tryd.prog 24 ps = (aFill ([(0, 1), (1, 1), (2, 1)][·]?) [.val (.int .i64 0), .val (.int .i64 0), .val (.slice none 0 0)] ps).map .agg) ∧
    tSz Tryd.prog 22 = some 1 ∧
    tAgg Tryd.prog 22 = some false ∧
    tBytes Tryd.prog 22 = some 24 ∧
    tZero Tryd.prog 22 = some [(.slice none 0 0)] ∧
    tSlice Tryd.prog 22 = some 30 ∧
    Tryd.prog.underlying 22 = some (.slice 30) ∧
    tIface Tryd.prog 22 = some false ∧
    tCls Tryd.prog 22 = .slice ∧
    tSz Tryd.prog 30 = some 3 ∧
    tAgg Tryd.prog 30 = some true ∧
    tBytes Tryd.prog 30 = some 72 ∧
    tZero Tryd.prog 30 = some [(.slice none 0 0), (.slice none 0 0), (.slice none 0 0)] ∧
    tSlice Tryd.prog 30 = none ∧
    tIface Tryd.prog 30 = some false ∧
    tCls Tryd.prog 30 = .other ∧
    tField Tryd.prog 30 0 = some (0, 28) ∧
    tField Tryd.prog 30 1 = some (1, 28) ∧
    tField Tryd.prog 30 2 = some (2, 28) ∧
    (∀ ps, aBuild Tryd.prog 30 ps = (aFill ([(0, 1), (1, 1), (2, 1)][·]?) [.val (.slice none 0 0), .val (.slice none 0 0), .val (.slice none 0 0)] ps).map .agg) ∧
    tSz Tryd.prog 28 = some 1 ∧
    tAgg Tryd.prog 28 = some false ∧
    tBytes Tryd.prog 28 = some 24 ∧
    tZero Tryd.prog 28 = some [(.slice none 0 0)] ∧
    tSlice Tryd.prog 28 = some 41 ∧
    Tryd.prog.underlying 28 = some (.slice 41) ∧
    tIface Tryd.prog 28 = some false ∧
    tCls Tryd.prog 28 = .slice ∧
    tSz Tryd.prog 41 = some 2 ∧
    tAgg Tryd.prog 41 = some true ∧
    tBytes Tryd.prog 41 = some 16 ∧
    tZero Tryd.prog 41 = some [(.int .i64 0), (.int .u64 0)] ∧
    tSlice Tryd.prog 41 = none ∧
    tIface Tryd.prog 41 = some false ∧
    tCls Tryd.prog 41 = .other ∧
    tField Tryd.prog 41 0 = some (0, 3) ∧
    tField Tryd.prog 41 1 = some (1, 36) ∧
    (∀ ps, aBuild Tryd.prog 41 ps = (aFill ([(0, 1), (1, 1)][·]?) [.val (.int .i64 0), .val (.int .u64 0)] ps).map .agg) ∧
    tSz Tryd.prog 25 = some 1 ∧
    tAgg Tryd.prog 25 = some false ∧
    tBytes Tryd.prog 25 = some 24 ∧
    tZero Tryd.prog 25 = some [(.slice none 0 0)] ∧
    tSlice Tryd.prog 25 = some 36 ∧
    Tryd.prog.underlying 25 = some (.slice 36) ∧
    tIface Tryd.prog 25 = some false ∧
    tCls Tryd.prog 25 = .slice ∧
    tSz Tryd.prog 51 = some 2 ∧
    tAgg Tryd.prog 51 = some true ∧
    tBytes Tryd.prog 51 = some 24 ∧
    tZero Tryd.prog 51 = some [(.int .i64 0), .nilIface] ∧
    tSlice Tryd.prog 51 = none ∧
    tIface Tryd.prog 51 = some false ∧
    tCls Tryd.prog 51 = .other ∧
    tField Tryd.prog 51 0 = some (0, 3) ∧
    tField Tryd.prog 51 1 = some (1, 32) ∧
    (∀ ps, aBuild Tryd.prog 51 ps = (aFill ([(0, 1), (1, 1)][·]?) [.val (.int .i64 0), .val .nilIface] ps).map .agg) ∧
    tSz Tryd.prog 49 = some 1 ∧
    tAgg Tryd.prog 49 = some false ∧
    tBytes Tryd.prog 49 = some 8 ∧
    tZero Tryd.prog 49 = some [(.pointer none)] ∧
    tSlice Tryd.prog 49 = none ∧
    tIface Tryd.prog 49 = some false ∧
    tCls Tryd.prog 49 = .pointer
theorem tfr : TFr :=
  ⟨rfl, rfl, rfl, rfl, rfl, rfl, rfl, rfl, rfl, rfl, rfl, rfl, rfl, rfl, rfl, rfl, rfl, rfl, rfl, rfl, rfl, rfl, rfl, rfl, rfl, rfl, rfl, rfl, rfl, rfl, rfl, rfl, rfl, rfl, rfl, rfl, rfl, rfl, rfl, rfl, rfl, rfl, rfl, rfl, rfl, rfl, rfl, rfl, rfl, rfl, rfl, fun _ => rfl, rfl, rfl, rfl, rfl, rfl, rfl, rfl, rfl, rfl, rfl, rfl, rfl, rfl, rfl, rfl, rfl, rfl, rfl, fun _ => rfl, rfl, rfl, rfl, rfl, rfl, rfl, rfl, rfl, rfl, rfl, rfl, rfl, rfl, rfl, rfl, rfl, rfl, fun _ => rfl, rfl, rfl, rfl, rfl, rfl, rfl, rfl, rfl, rfl, rfl, rfl, rfl, rfl, rfl, rfl, rfl, rfl, fun _ => rfl, rfl, rfl, rfl, rfl, rfl, rfl, rfl⟩

structure Tm where
  v : Int
  k : Int
  deriving Inhabited
abbrev tm (t : Tm) : List AV := [i t.v, u t.k]
theorem tm_len (t : Tm) : (tm t).length = 2 := rfl
structure Rw where
  a : List Tm
  b : List Tm
  c : List Tm
  deriving Inhabited
abbrev rw_ (r : Rw) : List AV := [slF tm r.a, slF tm r.b, slF tm r.c]
theorem rw_len (r : Rw) : (rw_ r).length = 3 := rfl
structure Rk where
  v : Int
  p : Int
  l : List Rw
  deriving Inhabited
abbrev rk (s : Rk) : List AV := [i s.v, i s.p, slF rw_ s.l]
def sndF (vars : Int) : Int → List Tm → Bool
  | _, [] => true
  | last, t :: l => if t.v ≤ last ∨ t.v ≥ vars ∨ t.k < 1 ∨ t.k ≥ 288230376287764481 then false else sndF vars t.v l
theorem incq {k : Nat} {n : Nat} (h : k < n) (hn : n < 1000000000) : IntKind.i64.wrap ((k:Int) + 1) = ((k + 1 : Nat) : Int) := by
  rw [wrapI_o (by omega) (by omega)]; rfl
theorem dconsq {α : Type} {L : List α} {k : Nat} {a : α} {r : List α} (e : L.drop k = a :: r) : k < L.length ∧ L.drop (k + 1) = r ∧ L[k]? = some a := by
  have h : k < L.length := by
    rcases Nat.lt_or_ge k L.length with h | h
    · exact h
    · rw [List.drop_eq_nil_of_le h] at e; cases e
  refine ⟨h, by rw [← List.drop_drop, e]; rfl, ?_⟩
  have := congrArg (·[0]?) e
  simpa using this
theorem dnilq {α : Type} {L : List α} {k : Nat} (e : L.drop k = []) (h : k ≤ L.length) : k = L.length := by
  have := List.drop_eq_nil_iff.1 e; omega
def prevOk (L : List Tm) (k : Nat) (last : Int) : Prop := (k = 0 ∧ last = -1) ∨ (∃ j t, k = j + 1 ∧ L[j]? = some t ∧ t.v = last ∧ 0 ≤ last)
set_option maxHeartbeats 4000000 in
theorem rank_sound_c {L : List Tm} {vars : Int} (hL : L.length < 1000000000) : Fn Tryd.prog 30 [slF tm L, i vars] [] (fun r _ => r = bo (sndF vars (-1) L)) := by
  refine Fn.enter Tryd.func30 Tryd.ntmps30 rfl (h := ?_)
  have tf := tfr
  repeat refine AW.seq ?_
  refine AW.reg ?_
  iterate 1 refine AOL.s1 (h := ?_)
  refine AOL.nil ?_
  refine AW.kq [0, 1] (h := ?_)
  repeat refine AW.seq ?_
  refine AW.reg ?_
  iterate 3 refine AOL.s1 (h := ?_)
  refine AOL.nil ?_
  refine AW.kq [0, 1, 7, 8, 9] (h := ?_)
  repeat refine AW.seq ?_
  refine AW.block ?_
  repeat refine AW.seq ?_
  refine AW.loopK [0, 1, 7, 8, 9] (fun n s => ∃ (k : Nat) (last : Int) (r : List Tm), s = ⟨49, [(0, slF tm L), (1, i vars), (7, slF tm L), (8, i L.length), (9, i k)], []⟩ ∧ L.drop k = r ∧ k ≤ L.length ∧ n = r.length ∧ prevOk L k last ∧ sndF vars last r = sndF vars (-1) L) L.length ?_ ?_
  · exact ⟨0, -1, L, rfl, rfl, Nat.zero_le _, rfl, .inl ⟨rfl, rfl⟩, rfl⟩
  rintro n s ⟨k, last, r, rfl, hr, hkl, rfl, hp, hi⟩
  repeat refine AW.seq ?_
  refine AW.reg ?_
  iterate 1 refine AOL.s1 (h := ?_)
  refine AOL.nil ?_
  refine AW.kq [0, 1, 7, 8, 9, 10] (h := ?_)
  repeat refine AW.seq ?_
  refine AW.cond rfl (fun c_ => ?_) (fun c_ => ?_)
  · cases r with
    | nil => have := dnilq hr hkl; simp at c_; omega
    | cons t r =>
    obtain ⟨hlt, hr', ht⟩ := dconsq hr
    have hd : (fm tm L).drop (k * 2) = i t.v :: u t.k :: fm tm r := fm_drop tm_len hr
    have k0 : (0:Int) ≤ k := by omega
    have k1 : (k:Int) < L.length := by omega
    have hw := incq hlt hL
    have go : sndF vars last (t :: r) = sndF vars (-1) L := hi
    clear hr hi
    refine AW.skip ?_
    repeat refine AW.seq ?_
    refine AW.block ?_
    repeat refine AW.seq ?_
    refine AW.reg ?_
    iterate 6 refine AOL.s1 (h := ?_)
    refine AOL.nil ?_
    refine AW.kq [0, 1, 5, 6, 7, 8, 9] (h := ?_)
    repeat refine AW.seq ?_
    have bad : (t.v < 0 ∨ t.v ≥ vars ∨ t.k < 1 ∨ t.k ≥ 288230376287764481) → sndF vars (-1) L = false := by
      intro h
      rw [← go]
      simp only [sndF]
      rw [if_pos]
      rcases h with h | h
      · left
        rcases hp with ⟨_, rfl⟩ | ⟨_, _, _, _, _, h0⟩ <;> omega
      · exact .inr h
    have fine : ∀ b : Bool, ¬ t.v < 0 → ¬ t.v ≥ vars → ¬ t.k < 1 → ¬ t.k ≥ 288230376287764481 → b = decide (t.v ≤ last) → (b = true → sndF vars (-1) L = false) ∧ (b = false → sndF vars t.v r = sndF vars (-1) L) := by
      intro b a1 a2 a3 a4 hb
      constructor
      · intro h; rw [← go]; simp only [sndF]; rw [if_pos]; left; rw [hb] at h; simpa using h
      · intro h; rw [← go]; simp only [sndF]; rw [if_neg]
        rw [hb] at h
        simp at h
        omega
    have next : ¬ t.v < 0 → prevOk L (k + 1) t.v := fun h => .inr ⟨k, t, rfl, ht, rfl, by omega⟩
    clear go
    have hcs : (t.v < 0 ∨ (¬ t.v < 0 ∧ t.v ≥ vars) ∨ (¬ t.v < 0 ∧ ¬ t.v ≥ vars ∧ t.k < 1) ∨ (¬ t.v < 0 ∧ ¬ t.v ≥ vars ∧ ¬ t.k < 1 ∧ t.k ≥ 288230376287764481)) ∨ (¬ t.v < 0 ∧ ¬ t.v ≥ vars ∧ ¬ t.k < 1 ∧ ¬ t.k ≥ 288230376287764481) := by omega
    rcases hcs with hcs | ⟨a1, a2, a3, a4⟩
    · have hbad : sndF vars (-1) L = false := bad (by omega)
      clear bad fine next hp hd
      rcases hcs with a1 | ⟨a1, a2⟩ | ⟨a1, a2, a3⟩ | ⟨a1, a2, a3, a4⟩
      iterate 4
        · refine AW.drw 31 [] (by kernel_rfl) (h := ?_)
          iterate 31 refine ADL.dm 1 (h := ?_)
          refine ADL.done hmix rfl rfl (hT := ?_)
          iterate 3 refine AOL.s1 (h := ?_)
          refine AOL.nil ?_
          refine AW.kq [0, 1, 7, 8, 9, 47] (h := ?_)
          repeat refine AW.seq ?_
          refine AW.cond rfl (fun d_ => ?_) (fun d_ => ?_)
          · repeat refine AW.seq ?_
            refine AW.reg ?_
            iterate 1 refine AOL.s1 (h := ?_)
            refine AOL.nil ?_
            refine AW.kq [4] (h := ?_)
            repeat refine AW.seq ?_
            refine AW.ret ?_
            refine ⟨_, [], rfl, HOk.nil _, ?_⟩
            simp only [one?, hbad]
          · cases d_
    clear bad
    rcases hp with ⟨rfl, rfl⟩ | ⟨j, q, rfl, hq, rfl, q0⟩
    · obtain ⟨f1, f2⟩ := fine false a1 a2 a3 a4 (by simp; omega)
      have n1 := next a1
      clear fine next hd
      refine AW.drw 31 [] (by kernel_rfl) (h := ?_)
      iterate 31 refine ADL.dm 1 (h := ?_)
      refine ADL.done hmix rfl rfl (hT := ?_)
      iterate 3 refine AOL.s1 (h := ?_)
      refine AOL.nil ?_
      refine AW.kq [0, 1, 7, 8, 9, 47] (h := ?_)
      repeat refine AW.seq ?_
      refine AW.cond rfl (fun d_ => ?_) (fun d_ => ?_)
      · cases d_
      refine AW.skip ?_
      repeat refine AW.seq ?_
      refine AW.let 1096 (h := ?_)
      refine AW.reg ?_
      iterate 2 refine AOL.s1 (h := ?_)
      refine AOL.nil ?_
      exact ⟨r.length, by simp, _, _, r, rfl, hr', hlt, rfl, n1, f2 rfl⟩
    obtain ⟨f1, f2⟩ := fine (decide (t.v ≤ q.v)) a1 a2 a3 a4 rfl
    have n1 := next a1
    have hj : j < L.length := by omega
    have hq2 : (fm tm L).drop (j * 2) = i q.v :: u q.k :: fm tm (L.drop (j + 1)) := fm_drop tm_len (by rw [List.drop_eq_getElem_cons hj]; congr 1; rw [List.getElem?_eq_getElem hj] at hq; exact Option.some.inj hq)
    have j0 : ((j + 1 : Nat) : Int) > 0 := by omega
    have jw : IntKind.i64.wrap (((j + 1 : Nat) : Int) - 1) = (j : Int) := by rw [wrapI_o (by omega) (by omega)]; omega
    have j1 : (0:Int) ≤ j := by omega
    have j2 : (j:Int) < L.length := by omega
    clear fine next hd hq q0
    refine AW.drw 31 [] (by kernel_rfl) (h := ?_)
    iterate 31 refine ADL.dm 1 (h := ?_)
    refine ADL.done hmix rfl rfl (hT := ?_)
    iterate 3 refine AOL.s1 (h := ?_)
    refine AOL.nil ?_
    refine AW.kq [0, 1, 7, 8, 9, 47] (h := ?_)
    repeat refine AW.seq ?_
    refine AW.cond rfl (fun d_ => ?_) (fun d_ => ?_)
    · have hbad := f1 d_
      repeat refine AW.seq ?_
      refine AW.reg ?_
      iterate 1 refine AOL.s1 (h := ?_)
      refine AOL.nil ?_
      refine AW.kq [4] (h := ?_)
      repeat refine AW.seq ?_
      refine AW.ret ?_
      refine ⟨_, [], rfl, HOk.nil _, ?_⟩
      simp only [one?, hbad]
    refine AW.skip ?_
    repeat refine AW.seq ?_
    refine AW.let 1096 (h := ?_)
    refine AW.reg ?_
    iterate 2 refine AOL.s1 (h := ?_)
    refine AOL.nil ?_
    exact ⟨r.length, by simp, _, _, r, rfl, hr', hlt, rfl, n1, f2 d_⟩
  have : r = [] := by
    cases r with
    | nil => rfl
    | cons t r => have := (dconsq hr).1; simp at c_; omega
  subst this
  have hg : sndF vars (-1) L = true := hi.symm
  clear hi hp hr
  repeat refine AW.seq ?_
  refine AW.exit ?_
  repeat (first | refine Kseq.ex ?_ | refine Kloop.ex ?_ | refine Kblock.miss (by decide) ?_)
  refine Kblock.hit ?_
  refine AW.kq [] (h := ?_)
  repeat refine AW.seq ?_
  refine AW.reg ?_
  iterate 1 refine AOL.s1 (h := ?_)
  refine AOL.nil ?_
  refine AW.kq [4] (h := ?_)
  repeat refine AW.seq ?_
  refine AW.ret ?_
  refine ⟨_, [], rfl, HOk.nil _, ?_⟩
  simp only [one?, hg]
def rowF (vars : Int) (r : Rw) : Bool := sndF vars (-1) r.a && sndF vars (-1) r.b && sndF vars (-1) r.c
def rowsF (vars : Int) : List Rw → Bool
  | [] => true
  | r :: l => if rowF vars r then rowsF vars l else false
def badF (s : Rk) : Bool := decide (s.v < 1) || decide (s.v > 4096) || decide (s.p < 0) || decide (s.p ≥ s.v) || decide ((s.l.length : Int) > 4096)
def chkF (s : Rk) : Bool := if badF s then false else rowsF s.v s.l
abbrev Len (s : Rk) : Prop := s.l.length < 1000000000 ∧ ∀ r ∈ s.l, r.a.length < 1000000000 ∧ r.b.length < 1000000000 ∧ r.c.length < 1000000000
def erF (b : Bool) (n : Int) : AV := if b then nil_ else er n
set_option maxHeartbeats 1000000 in
theorem rank_Check_c {s : Rk} (hS : Len s) : Fn Tryd.prog 15 [.agg (rk s)] [] (fun r _ => r = erF (chkF s) 3) := by
  refine Fn.enter Tryd.func15 Tryd.ntmps15 rfl (h := ?_)
  have tf := tfr
  repeat refine AW.seq ?_
  refine AW.reg ?_
  iterate 2 refine AOL.s1 (h := ?_)
  refine AOL.nil ?_
  refine AW.kq [1] (h := ?_)
  repeat refine AW.seq ?_
  refine AW.reg ?_
  iterate 4 refine AOL.s1 (h := ?_)
  refine AOL.kq [1, 8] (h := ?_)
  refine AOL.or 8 12 (os' := ?_) (x := ?_) (h1 := ?_) (h0 := ?_) (h := ?_)
  rotate_left 2
  iterate 2
    · intro hb_ K' hK; (iterate 4 refine AOL.s1 (h := ?_)); refine AOL.kq [1, 12] (h := ?_); exact hK
  iterate 1 refine AOL.s1 (h := ?_)
  refine AOL.kq [1, 13] (h := ?_)
  refine AOL.or 13 17 (os' := ?_) (x := ?_) (h1 := ?_) (h0 := ?_) (h := ?_)
  rotate_left 2
  iterate 2
    · intro hb_ K' hK; (iterate 4 refine AOL.s1 (h := ?_)); refine AOL.kq [1, 17] (h := ?_); exact hK
  iterate 1 refine AOL.s1 (h := ?_)
  refine AOL.kq [1, 18] (h := ?_)
  refine AOL.or 18 24 (os' := ?_) (x := ?_) (h1 := ?_) (h0 := ?_) (h := ?_)
  rotate_left 2
  iterate 2
    · intro hb_ K' hK; (iterate 6 refine AOL.s1 (h := ?_)); refine AOL.kq [1, 24] (h := ?_); exact hK
  iterate 1 refine AOL.s1 (h := ?_)
  refine AOL.kq [1, 25] (h := ?_)
  refine AOL.or 25 30 (os' := ?_) (x := ?_) (h1 := ?_) (h0 := ?_) (h := ?_)
  rotate_left 2
  iterate 2
    · intro hb_ K' hK; (iterate 5 refine AOL.s1 (h := ?_)); refine AOL.kq [1, 30] (h := ?_); exact hK
  refine AOL.nil ?_
  refine AW.kq [1, 30] (h := ?_)
  repeat refine AW.seq ?_
  refine AW.cond rfl (fun c_ => ?_) (fun c_ => ?_)
  · have hb : chkF s = false := by unfold chkF; rw [if_pos (by exact c_)]
    repeat refine AW.seq ?_
    refine AW.reg ?_
    iterate 2 refine AOL.s1 (h := ?_)
    refine AOL.nil ?_
    refine AW.kq [2] (h := ?_)
    repeat refine AW.seq ?_
    refine AW.ret ?_
    refine ⟨_, [], rfl, HOk.nil _, ?_⟩
    simp only [one?, hb]; rfl
  have hb : chkF s = rowsF s.v s.l := by unfold chkF; rw [if_neg]; rw [show badF s = false from c_]; decide
  rw [hb]
  clear hb c_
  obtain ⟨hS1, hS2⟩ := hS
  obtain ⟨sv, sp, sl_⟩ := s
  simp only at hS1 hS2
  refine AW.skip ?_
  repeat refine AW.seq ?_
  refine AW.reg ?_
  iterate 4 refine AOL.s1 (h := ?_)
  refine AOL.nil ?_
  refine AW.kq [1, 33, 34, 35] (h := ?_)
  repeat refine AW.seq ?_
  refine AW.block ?_
  repeat refine AW.seq ?_
  refine AW.loopK [1, 33, 34, 35] (fun n s => ∃ (k : Nat) (r : List Rw), s = ⟨63, [(1, .ptr 1016 0), (33, slF rw_ sl_), (34, i sl_.length), (35, i k)], [(1016, ⟨24, true, [i sv, i sp, slF rw_ sl_]⟩)]⟩ ∧ sl_.drop k = r ∧ k ≤ sl_.length ∧ n = r.length ∧ rowsF sv r = rowsF sv sl_) sl_.length ?_ ?_
  · exact ⟨0, _, rfl, rfl, Nat.zero_le _, rfl, rfl⟩
  rintro n s ⟨k, r, rfl, hr, hkl, rfl, hi⟩
  repeat refine AW.seq ?_
  refine AW.reg ?_
  iterate 1 refine AOL.s1 (h := ?_)
  refine AOL.nil ?_
  refine AW.kq [1, 33, 34, 35, 36] (h := ?_)
  repeat refine AW.seq ?_
  refine AW.cond rfl (fun c_ => ?_) (fun c_ => ?_)
  · cases r with
    | nil => have := dnilq hr hkl; simp at c_; omega
    | cons t r =>
    obtain ⟨hlt, hr', ht⟩ := dconsq hr
    have hd : (fm rw_ sl_).drop (k * 3) = slF tm t.a :: slF tm t.b :: slF tm t.c :: fm rw_ r := fm_drop rw_len hr
    have k0 : (0:Int) ≤ k := by omega
    have k1 : (k:Int) < sl_.length := by omega
    have hw := incq hlt hS1
    obtain ⟨l1, l2, l3⟩ := hS2 t (List.mem_of_getElem? ht)
    have go : rowsF sv (t :: r) = rowsF sv sl_ := hi
    have go2 : (!sndF sv (-1) t.a || !sndF sv (-1) t.b || !sndF sv (-1) t.c) = true → rowsF sv sl_ = false := by
      intro h; rw [← go]; simp only [rowsF]; rw [if_neg]; simp [rowF] at h ⊢; grind
    have go3 : (!sndF sv (-1) t.a || !sndF sv (-1) t.b || !sndF sv (-1) t.c) = false → rowsF sv r = rowsF sv sl_ := by
      intro h; rw [← go]; simp only [rowsF]; rw [if_pos]; simp [rowF] at h ⊢; grind
    clear hr hi go ht hS2
    refine AW.skip ?_
    repeat refine AW.seq ?_
    refine AW.block ?_
    repeat refine AW.seq ?_
    refine AW.reg ?_
    iterate 4 refine AOL.s1 (h := ?_)
    refine AOL.nil ?_
    refine AW.kq [1, 4, 33, 34, 35] (h := ?_)
    repeat refine AW.seq ?_
    refine AW.reg ?_
    iterate 4 refine AOL.s1 (h := ?_)
    refine AOL.callD rfl (rank_sound_c l1) (by kernel_rfl) rfl rfl (h := ?_)
    iterate 2 refine AOL.s1 (h := ?_)
    refine AOL.kq [1, 4, 33, 34, 35, 45] (h := ?_)
    refine AOL.or 45 52 (os' := ?_) (x := ?_) (h1 := ?_) (h0 := ?_) (h := ?_)
    rotate_left 2
    iterate 2
      · intro hb_ K' hK; (first | (iterate 7 refine AOL.s1 (h := ?_)) | ((iterate 4 refine AOL.s1 (h := ?_)); refine AOL.callD rfl (rank_sound_c l2) (by kernel_rfl) rfl rfl (h := ?_); (iterate 2 refine AOL.s1 (h := ?_)))); refine AOL.kq [1, 4, 33, 34, 35, 52] (h := ?_); exact hK
    iterate 1 refine AOL.s1 (h := ?_)
    refine AOL.kq [1, 4, 33, 34, 35, 53] (h := ?_)
    refine AOL.or 53 60 (os' := ?_) (x := ?_) (h1 := ?_) (h0 := ?_) (h := ?_)
    rotate_left 2
    iterate 2
      · intro hb_ K' hK; (first | (iterate 7 refine AOL.s1 (h := ?_)) | ((iterate 4 refine AOL.s1 (h := ?_)); refine AOL.callD rfl (rank_sound_c l3) (by kernel_rfl) rfl rfl (h := ?_); (iterate 2 refine AOL.s1 (h := ?_)))); refine AOL.kq [1, 4, 33, 34, 35, 60] (h := ?_); exact hK
    refine AOL.nil ?_
    refine AW.kq [1, 33, 34, 35, 60] (h := ?_)
    repeat refine AW.seq ?_
    refine AW.cond rfl (fun d_ => ?_) (fun d_ => ?_)
    · have hbad := go2 d_
      repeat refine AW.seq ?_
      refine AW.reg ?_
      iterate 2 refine AOL.s1 (h := ?_)
      refine AOL.nil ?_
      refine AW.kq [2] (h := ?_)
      repeat refine AW.seq ?_
      refine AW.ret ?_
      refine ⟨_, [], rfl, HOk.nil _, ?_⟩
      simp only [one?, hbad]; rfl
    have hg := go3 d_
    clear go2 go3 d_
    refine AW.skip ?_
    repeat refine AW.seq ?_
    refine AW.let 1064 (h := ?_)
    refine AW.reg ?_
    iterate 2 refine AOL.s1 (h := ?_)
    refine AOL.nil ?_
    exact ⟨r.length, by simp, _, r, rfl, hr', hlt, rfl, hg⟩
  have : r = [] := by
    cases r with
    | nil => rfl
    | cons t r => have := (dconsq hr).1; simp at c_; omega
  subst this
  have hg : rowsF sv sl_ = true := hi.symm
  clear hi hr
  repeat refine AW.seq ?_
  refine AW.exit ?_
  repeat (first | refine Kseq.ex ?_ | refine Kloop.ex ?_ | refine Kblock.miss (by decide) ?_)
  refine Kblock.hit ?_
  refine AW.kq [] (h := ?_)
  repeat refine AW.seq ?_
  refine AW.reg ?_
  iterate 1 refine AOL.s1 (h := ?_)
  refine AOL.nil ?_
  refine AW.kq [2] (h := ?_)
  repeat refine AW.seq ?_
  refine AW.ret ?_
  refine ⟨_, [], rfl, HOk.nil _, ?_⟩
  simp only [one?, hg]; rfl
end Go.Proofs.YtjeafkodcmbabaaDoor.E.M

