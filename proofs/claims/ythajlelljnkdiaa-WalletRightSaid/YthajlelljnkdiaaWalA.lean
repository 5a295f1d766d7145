/- What a wallet's sum and the document's plan tell: contracts of wallet.Has and obollaw21.plan. -/
import Derived.Test.YthajlelljnkdiaaWlb
import Derived.Test.YthajlelljnkdiaaProg
import Derived.KernelRfl
set_option linter.unusedVariables false
set_option linter.unusedSimpArgs false
set_option maxRecDepth 10000
open Go Go.Proofs.Ythajlelljnkdiaa.E Go.Proofs
namespace Go.Proofs.Ythajlelljnkdiaa.E.M
abbrev TFv : Prop := tSz Try.prog 3 = some 1 ∧
    tAgg Try.prog 3 = some false ∧
    tBytes Try.prog 3 = some 8 ∧
    tZero Try.prog 3 = some [(.int .i64 0)] ∧
    tSlice Try.prog 3 = none ∧
    tInt Try.prog 3 = some .i64 ∧
    Try.prog.underlying 3 = some (.int .i64) ∧
    tIface Try.prog 3 = some false ∧
    tCls Try.prog 3 = .other ∧
    tSz Try.prog 4 = some 1 ∧
    tAgg Try.prog 4 = some false ∧
    tBytes Try.prog 4 = some 1 ∧
    tZero Try.prog 4 = some [(.bool false)] ∧
    tSlice Try.prog 4 = none ∧
    tIface Try.prog 4 = some false ∧
    tCls Try.prog 4 = .bool ∧
    tSz Try.prog 48 = some 1 ∧
    tAgg Try.prog 48 = some false ∧
    tBytes Try.prog 48 = some 24 ∧
    tZero Try.prog 48 = some [(.slice none 0 0)] ∧
    tSlice Try.prog 48 = some 80 ∧
    Try.prog.underlying 48 = some (.slice 80) ∧
    tIface Try.prog 48 = some false ∧
    tCls Try.prog 48 = .slice ∧
    tSz Try.prog 23 = some 1 ∧
    tAgg Try.prog 23 = some false ∧
    tBytes Try.prog 23 = some 8 ∧
    tZero Try.prog 23 = some [(.int .u64 0)] ∧
    tSlice Try.prog 23 = none ∧
    tInt Try.prog 23 = some .u64 ∧
    Try.prog.underlying 23 = some (.int .u64) ∧
    tIface Try.prog 23 = some false ∧
    tCls Try.prog 23 = .other ∧
    tSz Try.prog 50 = some 1 ∧
    tAgg Try.prog 50 = some false ∧
    tBytes Try.prog 50 = some 24 ∧
    tZero Try.prog 50 = some [(.slice none 0 0)] ∧
    tSlice Try.prog 50 = some 3 ∧
    Try.prog.underlying 50 = some (.slice 3) ∧
    tIface Try.prog 50 = some false ∧
    tCls Try.prog 50 = .slice ∧
    tSz Try.prog 52 = some 1 ∧
    tAgg Try.prog 52 = some false ∧
    tBytes Try.prog 52 = some 16 ∧
    tZero Try.prog 52 = some [.nilIface] ∧
    tSlice Try.prog 52 = none ∧
    tIface Try.prog 52 = some true ∧
    tCls Try.prog 52 = .iface ∧
    tSz Try.prog 35 = some 3 ∧
    tAgg Try.prog 35 = some true ∧
    tBytes Try.prog 35 = some 24 ∧
    tZero Try.prog 35 = some [(.int .u64 0), (.int .u64 0), (.int .u64 0)] ∧
    tSlice Try.prog 35 = none ∧
    tIface Try.prog 35 = some false ∧
    tCls Try.prog 35 = .other ∧
    tField Try.prog 35 0 = some (0, 23) ∧
    tField Try.prog 35 1 = some (1, 23) ∧
    tField Try.prog 35 2 = some (2, 23) ∧
    (∀ ps, aBuild Try.prog 35 ps = (aFill ([(0, 1), (1, 1), (2, 1)][·]?) [.val (.int .u64 0), .val (.int .u64 0), .val (.int .u64 0)] ps).map .agg) ∧
    tSz Try.prog 80 = some 5 ∧
    tAgg Try.prog 80 = some true ∧
    tBytes Try.prog 80 = some 40 ∧
    tZero Try.prog 80 = some [(.int .u64 0), (.int .u64 0), (.int .u64 0), (.int .i64 0), (.bool false)] ∧
    tSlice Try.prog 80 = none ∧
    tIface Try.prog 80 = some false ∧
    tCls Try.prog 80 = .other ∧
    tField Try.prog 80 0 = some (0, 35) ∧
    tField Try.prog 80 1 = some (3, 3) ∧
    tField Try.prog 80 2 = some (4, 4) ∧
    (∀ ps, aBuild Try.prog 80 ps = (aFill ([(0, 3), (3, 1), (4, 1)][·]?) [.val (.int .u64 0), .val (.int .u64 0), .val (.int .u64 0), .val (.int .i64 0), .val (.bool false)] ps).map .agg) ∧
    tSz Try.prog 55 = some 1 ∧
    tAgg Try.prog 55 = some false ∧
    tBytes Try.prog 55 = some 8 ∧
    tZero Try.prog 55 = some [(.int .i64 0)] ∧
    tSlice Try.prog 55 = none ∧
    tInt Try.prog 55 = some .i64 ∧
    Try.prog.underlying 55 = some (.int .i64) ∧
    tIface Try.prog 55 = some false ∧
    tCls Try.prog 55 = .other ∧
    tSz Try.prog 36 = some 1 ∧
    tAgg Try.prog 36 = some false ∧
    tBytes Try.prog 36 = some 24 ∧
    tZero Try.prog 36 = some [(.slice none 0 0)] ∧
    tSlice Try.prog 36 = some 23 ∧
    Try.prog.underlying 36 = some (.slice 23) ∧
    tIface Try.prog 36 = some false ∧
    tCls Try.prog 36 = .slice
theorem tfv : TFv :=
  ⟨rfl, rfl, rfl, rfl, rfl, rfl, rfl, rfl, rfl, rfl, rfl, rfl, rfl, rfl, rfl, rfl, rfl, rfl, rfl, rfl, rfl, rfl, rfl, rfl, rfl, rfl, rfl, rfl, rfl, rfl, rfl, rfl, rfl, rfl, rfl, rfl, rfl, rfl, rfl, rfl, rfl, rfl, rfl, rfl, rfl, rfl, rfl, rfl, rfl, rfl, rfl, rfl, rfl, rfl, rfl, rfl, rfl, rfl, fun _ => rfl, rfl, rfl, rfl, rfl, rfl, rfl, rfl, rfl, rfl, rfl, fun _ => rfl, rfl, rfl, rfl, rfl, rfl, rfl, rfl, rfl, rfl, rfl, rfl, rfl, rfl, rfl, rfl, rfl, rfl⟩
structure H where
  v : Int
  o : Int
  r : Int
  a : Int
  s : Bool
  deriving Inhabited
def cells : List H → List AV
  | [] => []
  | h :: l => u h.v :: u h.o :: u h.r :: i h.a :: bo h.s :: cells l
abbrev hs (L : List H) : AV := .sl L.length (cells L)
theorem cells_drop : ∀ {L : List H} {k : Nat} {h : H} {r : List H}, L.drop k = h :: r → (cells L).drop (k * 5) = u h.v :: u h.o :: u h.r :: i h.a :: bo h.s :: cells r
  | [], k, h, r, e => by simp at e
  | g :: l, 0, h, r, e => by simp at e; obtain ⟨rfl, rfl⟩ := e; rfl
  | g :: l, k + 1, h, r, e => by
    rw [Nat.add_mul]
    simp only [cells, Nat.one_mul, List.drop_succ_cons]
    exact cells_drop (by simpa using e)
def gh (L : List H) (k : Nat) : H := L.getD k default
theorem cells_at {L : List H} {k : Nat} (hk : k < L.length) : (cells L).drop (k * 5) = u (gh L k).v :: u (gh L k).o :: u (gh L k).r :: i (gh L k).a :: bo (gh L k).s :: cells (L.drop (k + 1)) := by
  apply cells_drop
  rw [List.drop_eq_getElem_cons hk, gh]
  simp [List.getD_eq_getElem?_getD, hk]
theorem wrapI {n : Int} (h0 : -9223372036854775808 ≤ n) (h1 : n < 9223372036854775808) : IntKind.i64.wrap n = n := by
  simp only [IntKind.wrap, IntKind.bits, IntKind.signed]
  have : (2:Int)^64 = 18446744073709551616 := by decide
  have h2 : (2:Int)^(64-1) = 9223372036854775808 := by decide
  simp only [this, h2]
  simp
  omega
theorem wrapU {n : Int} (h : w64 n) : IntKind.u64.wrap n = n := by rw [IntKind.wrap_u64]; exact Int.emod_eq_of_lt h.1 h.2
theorem inc {k : Nat} (h : k < 1000000) : IntKind.i64.wrap ((k:Int) + 1) = ((k + 1 : Nat) : Int) := by
  rw [wrapI (by omega) (by omega)]; rfl
def hasS : List H → Int → Int
  | [], a => a
  | h :: l, a => hasS l (if h.s then a else IntKind.u64.wrap (a + h.v))
def ic : List Nat → List AV
  | [] => []
  | n :: l => i n :: ic l
abbrev slN (l : List Nat) : AV := .sl l.length (ic l)
theorem ic_drop : ∀ {F : List Nat} {k : Nat} {x : Nat} {r : List Nat}, F.drop k = x :: r → (ic F).drop k = i x :: ic r
  | [], k, h, r, e => by simp at e
  | g :: l, 0, h, r, e => by simp at e; obtain ⟨rfl, rfl⟩ := e; rfl
  | g :: l, k + 1, h, r, e => by
    simp only [ic, List.drop_succ_cons]
    exact ic_drop (by simpa using e)
theorem ic_append : ∀ (F G : List Nat), ic (F ++ G) = ic F ++ ic G
  | [], G => rfl
  | a :: F, G => by simp [ic, ic_append F G]
theorem ic_length : ∀ F : List Nat, (ic F).length = F.length
  | [] => rfl
  | a :: F => by simp [ic, ic_length F]
theorem drop_cons' {α : Type} {L : List α} {k : Nat} {h : α} {r : List α} (e : L.drop k = h :: r) : L.drop (k + 1) = r ∧ k < L.length ∧ L.length = k + 1 + r.length := by
  have := congrArg List.length e
  simp at this
  refine ⟨by rw [← List.drop_drop, e]; rfl, by omega, by omega⟩
theorem drop_nil' {α : Type} {L : List α} {k : Nat} (e : L.drop k = []) (h : k ≤ L.length) : k = L.length := by
  have := congrArg List.length e
  simp at this
  omega
theorem wallet_Has_c {L : List H} (hL : L.length < 1000000) : Fn Try.prog 12 [hs L] [] (fun r _ => r = u (hasS L 0)) := by
  refine Fn.enter Try.func12 Try.ntmps12 rfl (h := ?_)
  have tf := tfv
  repeat refine AW.seq ?_
  refine AW.reg ?_
  refine AOL.s1 (h := ?_)
  refine AOL.nil ?_
  refine AW.kp [0] (h := ?_)
  repeat refine AW.seq ?_
  refine AW.reg ?_
  refine AOL.s1 (h := ?_)
  refine AOL.nil ?_
  refine AW.kp [0, 3] (h := ?_)
  repeat refine AW.seq ?_
  refine AW.reg ?_
  iterate 3 refine AOL.s1 (h := ?_)
  refine AOL.nil ?_
  refine AW.kp [3, 6, 7, 8] (h := ?_)
  repeat refine AW.seq ?_
  refine AW.block ?_
  repeat refine AW.seq ?_
  refine AW.loopK [3, 6, 7, 8] (fun n s => ∃ (k : Nat) (a : Int) (r : List H), s = ⟨22, [(3, u a), (6, hs L), (7, i L.length), (8, i k)], []⟩ ∧ L.drop k = r ∧ k ≤ L.length ∧ n = r.length ∧ hasS r a = hasS L 0) L.length ?_ ?_
  · exact ⟨0, 0, L, rfl, rfl, Nat.zero_le _, rfl, rfl⟩
  rintro n s ⟨k, a, r, rfl, hr, hkl, rfl, ha⟩
  repeat refine AW.seq ?_
  refine AW.reg ?_
  refine AOL.s1 (h := ?_)
  refine AOL.nil ?_
  refine AW.kp [3, 6, 7, 8, 9] (h := ?_)
  repeat refine AW.seq ?_
  refine AW.cond rfl (fun c_ => ?_) (fun c_ => ?_)
  · cases r with
    | nil => have := drop_nil' hr hkl; simp at c_; omega
    | cons h r =>
    obtain ⟨hr', hlt, hlen⟩ := drop_cons' hr
    have hd := cells_drop hr
    have hk0 : (0:Int) ≤ k := by omega
    have hkl : (k:Int) < L.length := by omega
    have hw := inc (k := k) (by omega)
    clear hlen
    refine AW.skip ?_
    repeat refine AW.seq ?_
    refine AW.block ?_
    repeat refine AW.seq ?_
    refine AW.reg ?_
    iterate 4 refine AOL.s1 (h := ?_)
    refine AOL.nil ?_
    refine AW.kp [3, 5, 6, 7, 8] (h := ?_)
    repeat refine AW.seq ?_
    refine AW.reg ?_
    iterate 3 refine AOL.s1 (h := ?_)
    refine AOL.nil ?_
    refine AW.kp [3, 5, 6, 7, 8, 14] (h := ?_)
    repeat refine AW.seq ?_
    refine AW.cond rfl (fun d_ => ?_) (fun d_ => ?_)
    · skip
      repeat refine AW.seq ?_
      refine AW.reg ?_
      iterate 6 refine AOL.s1 (h := ?_)
      refine AOL.nil ?_
      repeat refine AW.seq ?_
      refine AW.let 1080 (h := ?_)
      refine AW.reg ?_
      iterate 2 refine AOL.s1 (h := ?_)
      refine AOL.nil ?_
      refine ⟨r.length, by simp, k + 1, _, r, rfl, hr', hlt, rfl, ?_⟩
      rw [← ha, hasS]; simp at d_; rw [d_]; rfl
    · skip
      refine AW.skip ?_
      repeat refine AW.seq ?_
      refine AW.let 1080 (h := ?_)
      refine AW.reg ?_
      iterate 2 refine AOL.s1 (h := ?_)
      refine AOL.nil ?_
      refine ⟨r.length, by simp, k + 1, _, r, rfl, hr', hlt, rfl, ?_⟩
      rw [← ha, hasS]; simp at d_; rw [d_]; rfl
  · skip
    repeat refine AW.seq ?_
    refine AW.exit ?_
    refine Kseq.ex ?_
    refine Kloop.ex ?_
    refine Kblock.hit ?_
    refine AW.kp [3] (h := ?_)
    repeat refine AW.seq ?_
    refine AW.reg ?_
    iterate 2 refine AOL.s1 (h := ?_)
    refine AOL.nil ?_
    refine AW.kp [2] (h := ?_)
    repeat refine AW.seq ?_
    refine AW.ret ?_
    refine ⟨_, [], rfl, HOk.nil _, ?_⟩
    simp only [one?]
    have : r = [] := by
      cases r with
      | nil => rfl
      | cons => obtain ⟨_, h, _⟩ := drop_cons' hr; simp at c_; omega
    rw [← ha, this]; rfl
def p1 (L : List H) (need : Int) (x : Nat) : Bool := !(gh L x).s && decide ((gh L x).v ≥ need)
def q1 (L : List H) (need : Int) (a b : Nat) : Bool := !(gh L a).s && !(gh L b).s && decide ((gh L a).v > 0) && decide ((gh L b).v > 0) && decide ((gh L b).v ≥ IntKind.u64.wrap (need - (gh L a).v))
def pairs (q : Nat → Nat → Bool) : List Nat → Option (Nat × Nat)
  | [] => none
  | a :: t => match t.find? (q a) with
    | some b => some (a, b)
    | none => pairs q t
def planR (L : List H) (need : Int) : List Nat × Bool :=
  if need = 0 then ([], true) else match (List.range L.length).find? (p1 L need) with
    | some x => ([x], true)
    | none => match pairs (q1 L need) (List.range L.length) with
      | some (a, b) => ([a, b], true)
      | none => ([], false)
theorem range_drop {n k x : Nat} {r : List Nat} (e : (List.range n).drop k = x :: r) : x = k ∧ k < n ∧ (List.range n).drop (k + 1) = r := by
  obtain ⟨h1, h2, h3⟩ := drop_cons' e
  simp at h2
  refine ⟨?_, h2, h1⟩
  have := congrArg (·[0]?) e
  simp [h2] at this
  exact this.symm
set_option maxHeartbeats 4000000 in
theorem obollaw21_plan_c {L : List H} {need : Int} (hL : L.length < 1000000) : Fn Try.prog 20 [hs L, u need] [] (fun r _ => r = .tup [slN (planR L need).1, bo (planR L need).2]) := by
  refine Fn.enter Try.func20 Try.ntmps20 rfl (h := ?_)
  have tf := tfv
  repeat refine AW.seq ?_
  refine AW.reg ?_
  iterate 2 refine AOL.s1 (h := ?_)
  refine AOL.nil ?_
  refine AW.kp [0, 1] (h := ?_)
  repeat refine AW.seq ?_
  refine AW.reg ?_
  iterate 2 refine AOL.s1 (h := ?_)
  refine AOL.nil ?_
  refine AW.kp [0, 1, 12] (h := ?_)
  repeat refine AW.seq ?_
  refine AW.cond rfl (fun c_ => ?_) (fun c_ => ?_)
  · have h0 : need = 0 := by simpa using c_
    repeat refine AW.seq ?_
    refine AW.reg ?_
    iterate 2 refine AOL.s1 (h := ?_)
    refine AOL.nil ?_
    refine AW.kp [4, 5] (h := ?_)
    refine AW.nilSl 4 (.inl rfl) (h := ?_)
    repeat refine AW.seq ?_
    refine AW.ret ?_
    refine ⟨_, [], rfl, HOk.nil _, ?_⟩
    simp only [one?, planR, if_pos h0]; rfl
  have h0 : ¬ need = 0 := by simpa using c_
  refine AW.skip ?_
  repeat refine AW.seq ?_
  refine AW.reg ?_
  iterate 1 refine AOL.s1 (h := ?_)
  refine AOL.nil ?_
  refine AW.kp [0, 1, 6] (h := ?_)
  repeat refine AW.seq ?_
  refine AW.block ?_
  repeat refine AW.seq ?_
  refine AW.loopK [0, 1, 6] (fun n s => ∃ (k : Nat) (r : List Nat), s = ⟨95, [(0, hs L), (1, u need), (6, i k)], []⟩ ∧ (List.range L.length).drop k = r ∧ k ≤ L.length ∧ n = r.length ∧ r.find? (p1 L need) = (List.range L.length).find? (p1 L need)) L.length ?_ ?_
  · exact ⟨0, List.range L.length, rfl, rfl, Nat.zero_le _, by simp, rfl⟩
  rintro n s ⟨k, r, rfl, hr, hkl, rfl, hi⟩
  repeat refine AW.seq ?_
  refine AW.reg ?_
  iterate 4 refine AOL.s1 (h := ?_)
  refine AOL.nil ?_
  refine AW.kp [0, 1, 6, 16] (h := ?_)
  repeat refine AW.seq ?_
  refine AW.cond rfl (fun c_ => ?_) (fun c_ => ?_)
  · cases r with
    | nil => have := drop_nil' hr (by simpa using hkl); simp at this c_; omega
    | cons x r =>
    obtain ⟨rfl, hlt, hr'⟩ := range_drop hr
    have hd := cells_at hlt
    have hk0 : (0:Int) ≤ x := by omega
    have hkl' : (x:Int) < L.length := by omega
    have hw := inc (k := x) (by omega)
    refine AW.skip ?_
    repeat refine AW.seq ?_
    refine AW.block ?_
    repeat refine AW.seq ?_
    rcases Bool.eq_false_or_eq_true (gh L x).s with hS | hS
    · refine AW.reg ?_
      iterate 16 refine AOL.s1 (h := ?_)
      refine AOL.nil ?_
      refine AW.kp [0, 1, 6, 34] (h := ?_)
      repeat refine AW.seq ?_
      refine AW.cond rfl (fun d_ => ?_) (fun d_ => ?_)
      · cases d_
      refine AW.skip ?_
      repeat refine AW.seq ?_
      refine AW.reg ?_
      iterate 3 refine AOL.s1 (h := ?_)
      refine AOL.nil ?_
      refine ⟨r.length, by simp, x + 1, r, rfl, hr', hlt, rfl, ?_⟩
      rw [← hi, List.find?_cons_of_neg]
      simp [p1, hS]
    · refine AW.reg ?_
      iterate 16 refine AOL.s1 (h := ?_)
      refine AOL.nil ?_
      refine AW.kp [0, 1, 6, 34] (h := ?_)
      repeat refine AW.seq ?_
      refine AW.cond rfl (fun d_ => ?_) (fun d_ => ?_)
      · repeat refine AW.seq ?_
        refine AW.reg ?_
        iterate 4 refine AOL.s1 (h := ?_)
        refine AOL.nil ?_
        refine AW.kp [4, 5] (h := ?_)
        refine AW.fz 1576 rfl (fun h => by cases h) (h := ?_)
        repeat refine AW.seq ?_
        refine AW.ret ?_
        refine ⟨_, [], rfl, HOk.nil _, ?_⟩
        rw [List.find?_cons_of_pos (by simpa [p1, hS] using d_)] at hi
        simp only [one?, planR, if_neg h0, ← hi]; rfl
      · refine AW.skip ?_
        repeat refine AW.seq ?_
        refine AW.reg ?_
        iterate 3 refine AOL.s1 (h := ?_)
        refine AOL.nil ?_
        refine ⟨r.length, by simp, x + 1, r, rfl, hr', hlt, rfl, ?_⟩
        rw [← hi, List.find?_cons_of_neg]
        simp [p1, hS] at d_ ⊢
        exact d_
  repeat refine AW.seq ?_
  refine AW.exit ?_
  refine Kseq.ex ?_
  refine Kloop.ex ?_
  refine Kblock.hit ?_
  refine AW.kp [0, 1] (h := ?_)
  have hn : (List.range L.length).find? (p1 L need) = none := by
    cases r with
    | nil => exact hi.symm
    | cons => obtain ⟨_, h, _⟩ := range_drop hr; simp at c_; omega
  clear hi hkl hr c_
  repeat refine AW.seq ?_
  refine AW.reg ?_
  iterate 1 refine AOL.s1 (h := ?_)
  refine AOL.nil ?_
  refine AW.kp [0, 1, 7] (h := ?_)
  repeat refine AW.seq ?_
  refine AW.block ?_
  repeat refine AW.seq ?_
  refine AW.loopK [0, 1, 7] (fun n s => ∃ (k : Nat) (r : List Nat), s = ⟨95, [(0, hs L), (1, u need), (7, i k)], []⟩ ∧ (List.range L.length).drop k = r ∧ k ≤ L.length ∧ n = r.length ∧ pairs (q1 L need) r = pairs (q1 L need) (List.range L.length)) L.length ?_ ?_
  · exact ⟨0, List.range L.length, rfl, rfl, Nat.zero_le _, by simp, rfl⟩
  rintro n s ⟨k, r, rfl, hr, hkl, rfl, hi⟩
  repeat refine AW.seq ?_
  refine AW.reg ?_
  iterate 4 refine AOL.s1 (h := ?_)
  refine AOL.nil ?_
  refine AW.kp [0, 1, 7, 40] (h := ?_)
  repeat refine AW.seq ?_
  refine AW.cond rfl (fun c_ => ?_) (fun c_ => ?_)
  · cases r with
    | nil => have := drop_nil' hr (by simpa using hkl); simp at this c_; omega
    | cons x r =>
    obtain ⟨rfl, hlt, hr'⟩ := range_drop hr
    have hd := cells_at hlt
    have hk0 : (0:Int) ≤ x := by omega
    have hkl' : (x:Int) < L.length := by omega
    have hw := inc (k := x) (by omega)
    refine AW.skip ?_
    repeat refine AW.seq ?_
    refine AW.block ?_
    repeat refine AW.seq ?_
    refine AW.reg ?_
    iterate 3 refine AOL.s1 (h := ?_)
    refine AOL.nil ?_
    refine AW.kp [0, 1, 7, 8] (h := ?_)
    repeat refine AW.seq ?_
    refine AW.block ?_
    repeat refine AW.seq ?_
    refine AW.loopK [0, 1, 7, 8] (fun n s => ∃ (j : Nat) (t : List Nat), s = ⟨95, [(0, hs L), (1, u need), (7, i x), (8, i j)], []⟩ ∧ (List.range L.length).drop j = t ∧ j ≤ L.length ∧ n = t.length ∧ t.find? (q1 L need x) = r.find? (q1 L need x)) r.length ?_ ?_
    · exact ⟨x + 1, r, rfl, hr', hlt, rfl, rfl⟩
    rintro n s ⟨j, t, rfl, ht, hjl, rfl, hj⟩
    repeat refine AW.seq ?_
    refine AW.reg ?_
    iterate 4 refine AOL.s1 (h := ?_)
    refine AOL.nil ?_
    refine AW.kp [0, 1, 7, 8, 48] (h := ?_)
    repeat refine AW.seq ?_
    refine AW.cond rfl (fun d_ => ?_) (fun d_ => ?_)
    · cases t with
      | nil => have := drop_nil' ht (by simpa using hjl); simp at this d_; omega
      | cons y t =>
      obtain ⟨rfl, hjt, ht'⟩ := range_drop ht
      have hd2 := cells_at hjt
      have hj0 : (0:Int) ≤ y := by omega
      have hjl' : (y:Int) < L.length := by omega
      have hw2 := inc (k := y) (by omega)
      refine AW.skip ?_
      repeat refine AW.seq ?_
      refine AW.block ?_
      repeat refine AW.seq ?_
      refine AW.reg ?_
      iterate 7 refine AOL.s1 (h := ?_)
      refine AOL.nil ?_
      refine AW.kp [0, 1, 7, 8, 9] (h := ?_)
      repeat refine AW.seq ?_
      refine AW.reg ?_
      iterate 7 refine AOL.s1 (h := ?_)
      refine AOL.nil ?_
      refine AW.kp [0, 1, 7, 8, 9, 10] (h := ?_)
      repeat refine AW.seq ?_
      have hcs : (gh L x).s = true ∨ ((gh L x).s = false ∧ (gh L y).s = true) ∨ ((gh L x).s = false ∧ (gh L y).s = false ∧ decide ((gh L x).v > 0) = false) ∨ ((gh L x).s = false ∧ (gh L y).s = false ∧ decide ((gh L x).v > 0) = true ∧ decide ((gh L y).v > 0) = false) ∨ ((gh L x).s = false ∧ (gh L y).s = false ∧ decide ((gh L x).v > 0) = true ∧ decide ((gh L y).v > 0) = true) := by
        cases (gh L x).s <;> cases (gh L y).s <;> cases decide ((gh L x).v > 0) <;> cases decide ((gh L y).v > 0) <;> simp
      rcases hcs with h1 | ⟨h1, h2⟩ | ⟨h1, h2, h3⟩ | ⟨h1, h2, h3, h4⟩ | ⟨h1, h2, h3, h4⟩ <;>
      · refine AW.reg ?_
        iterate 29 refine AOL.s1 (h := ?_)
        refine AOL.nil ?_
        refine AW.kp [0, 1, 7, 8, 91] (h := ?_)
        repeat refine AW.seq ?_
        refine AW.cond rfl (fun e_ => ?_) (fun e_ => ?_)
        · first
          | (cases e_; done)
          | repeat refine AW.seq ?_
            refine AW.reg ?_
            iterate 5 refine AOL.s1 (h := ?_)
            refine AOL.nil ?_
            refine AW.kp [4, 5] (h := ?_)
            refine AW.fz 2504 rfl (fun h => by cases h) (h := ?_)
            repeat refine AW.seq ?_
            refine AW.ret ?_
            refine ⟨_, [], rfl, HOk.nil _, ?_⟩
            rw [List.find?_cons_of_pos (by simp only [q1, *]; rfl)] at hj
            simp only [pairs, ← hj] at hi
            simp only [one?, planR, if_neg h0, hn, ← hi]; rfl
        · first
          | (cases e_; done)
          | refine AW.skip ?_
            repeat refine AW.seq ?_
            refine AW.reg ?_
            iterate 3 refine AOL.s1 (h := ?_)
            refine AOL.nil ?_
            refine ⟨t.length, by simp, y + 1, t, rfl, ht', hjt, rfl, ?_⟩
            rw [← hj, List.find?_cons_of_neg]
            first
            | (simp [q1, h1]; done)
            | (simp [q1, h2]; done)
            | (simp [q1, h3]; done)
            | (simp [q1, h4]; done)
            | (simp only [q1, h1, h2, h3, h4, e_]; decide)
    · repeat refine AW.seq ?_
      refine AW.exit ?_
      refine Kseq.ex ?_
      refine Kloop.ex ?_
      refine Kblock.hit ?_
      have ht0 : t = [] := by
        cases t with
        | nil => rfl
        | cons => obtain ⟨_, h, _⟩ := range_drop ht; simp at d_; omega
      subst ht0
      repeat refine AW.seq ?_
      refine AW.reg ?_
      iterate 3 refine AOL.s1 (h := ?_)
      refine AOL.nil ?_
      refine ⟨r.length, by simp, x + 1, r, rfl, hr', hlt, rfl, ?_⟩
      rw [← hi, pairs, ← hj]; rfl
  · repeat refine AW.seq ?_
    refine AW.exit ?_
    refine Kseq.ex ?_
    refine Kloop.ex ?_
    refine Kblock.hit ?_
    refine AW.kp [] (h := ?_)
    have hp : pairs (q1 L need) (List.range L.length) = none := by
      cases r with
      | nil => exact hi.symm
      | cons => obtain ⟨_, h, _⟩ := range_drop hr; simp at c_; omega
    repeat refine AW.seq ?_
    refine AW.reg ?_
    iterate 2 refine AOL.s1 (h := ?_)
    refine AOL.nil ?_
    refine AW.kp [4, 5] (h := ?_)
    refine AW.nilSl 4 (.inl rfl) (h := ?_)
    repeat refine AW.seq ?_
    refine AW.ret ?_
    refine ⟨_, [], rfl, HOk.nil _, ?_⟩
    simp only [one?, planR, if_neg h0, hn, hp]; rfl
end Go.Proofs.Ythajlelljnkdiaa.E.M

