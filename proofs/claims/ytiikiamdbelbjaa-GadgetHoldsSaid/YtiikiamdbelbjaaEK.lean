/- E, a reader of Go's code as the model has it: a contract of a function is proved over values that are told without memory (EK). -/
import Derived.Test.YtiikiamdbelbjaaEJ


set_option linter.unusedVariables false
set_option linter.unusedSimpArgs false
open Go
namespace Go.Proofs.Ytiikiamdbelbjaa.E
set_option linter.unusedVariables false
set_option linter.unusedSimpArgs false
/-- A contract that was proved otherwise, whose result may stand in blocks that the call has laid, which are not written any more. -/
theorem Fn.ofCallsF {P : Program} {f : FuncId} {as : List AV} {R : AV → Prop}
    (h : ∀ ρ F w (vs : List Value), VRs ρ F w as vs → (∀ b, F b → b < w.heap.size) → Calls P f vs.toArray w fun e w' => ∃ v r, e = .returned v ∧ R r ∧ Go.RowKit.Below w.heap.size w w' ∧ VR (fun _ => none) (fun b => F b ∨ (w.heap.size ≤ b ∧ b < w'.heap.size)) w' r v) :
    Fn P f as [] (fun q _ => R q) := by
  intro ρ F w vs hh hv
  refine (h ρ F w vs hv hh.flt).mono ?_
  rintro e w' ⟨v, r, rfl, hR, hb, hr⟩
  refine ⟨v, ρ, fun b => F b ∨ (w.heap.size ≤ b ∧ b < w'.heap.size), r, [], rfl, hR, VR.keep (fun _ h => h) (fun _ _ _ _ h => h) (fun _ _ h => by cases h) _ _ hr, ⟨by simp, hh.inj, ?_, fun l r m hl => Nat.lt_of_lt_of_le (hh.lt l r m hl) hb.size, ?_⟩, ?_⟩
  · rintro l b m hl (hF | ⟨h1, _⟩)
    · exact hh.apart l b m hl hF
    · have := hh.lt l b m hl; omega
  · rintro b (hF | ⟨_, h2⟩)
    · exact Nat.lt_of_lt_of_le (hh.flt b hF) hb.size
    · exact h2
  exact { os := hb.os, tape := hb.tape, output := hb.output, size := hb.size, block := fun k hk _ => hb.block k hk, froz := fun _ h => .inl h
          froz' := fun b hb' => by rcases hb' with h | ⟨h, _⟩; exact .inl h; exact .inr (.inr h)
          own := fun l r m h => .inl ⟨l, m, h⟩
          same := fun l _ x y h h' => by rw [h] at h'; exact Option.some.inj h'
          gone := fun _ _ h => h }
end Go.Proofs.Ytiikiamdbelbjaa.E

namespace Go.Proofs.Ytiikiamdbelbjaa.E
set_option linter.unusedVariables false
set_option linter.unusedSimpArgs false
/-! ## clear(s) of a slice of an own block -/
def zRow (zs : List Value) (n : Nat) : List Value := (Builtin.zeroCells zs.toArray n).toList
theorem zRow_len (zs : List Value) (n : Nat) : (zRow zs n).length = n * zs.length := by simp [zRow, Builtin.zeroCells]
theorem zRow_mem {zs : List Value} {n : Nat} {v : Value} (h : v ∈ zRow zs n) : v ∈ zs := by
  simp only [zRow, Builtin.zeroCells, Array.toList_map, List.mem_map, Array.mem_toList_iff, Array.mem_range] at h
  obtain ⟨i, hi, rfl⟩ := h
  have hp : 0 < zs.length := by
    rcases Nat.eq_zero_or_pos zs.length with h | h
    · simp [h] at hi
    · exact h
  have hlt : i % zs.length < zs.length := Nat.mod_lt _ hp
  simp [hlt]
theorem aClear_run {P : Program} {ρ F st a w} (hR : Rel ρ F st a w) {t ty e l off n z : Nat} {zs : List Value} {y : Value} {B : Blk} (hx : VR ρ F w (.ref l off n z) y)
    (he : P.underlying t = some (.slice e)) (h0 : tZero P e = some zs) (hz : zs.length = z) (h1 : ∀ v ∈ zs, v.oneCell' = true) (hB : get? l st.h = some B) (hin : off + n * z ≤ B.cs.length) :
    ∃ w', (Builtin.clear_ #[t] ty #[y]).run P w = .ok (.tuple #[]) w' ∧ Rel ρ F { st with h := ins l { B with cs := B.cs.take off ++ (zRow zs n).map AV.val ++ B.cs.drop (off + n * z) } st.h } a w' ∧ Fr ρ F w ρ F w' := by
  obtain ⟨v0, hv0, hv0c⟩ := run_tZero (w := w) h0
  have hsame : Rel ρ F { st with h := ins l { B with cs := B.cs.take off ++ (zRow zs 0).map AV.val ++ B.cs.drop (off + 0 * z) } st.h } a w := by
    have e0 : (zRow zs 0).map AV.val = [] := by simp [zRow, Builtin.zeroCells]
    rw [e0, Nat.zero_mul, Nat.add_zero, List.append_nil, List.take_append_drop]
    have hh : HRel ρ F (ins l B st.h) w := by
      refine ⟨fun k C hC => ?_, hR.heap.inj, hR.heap.apart, hR.heap.lt, hR.heap.flt⟩
      rcases mem_ins hC with e1 | ⟨hC, _⟩
      · cases e1; exact hR.heap.blk _ _ (get?_mem hB)
      · exact hR.heap.blk _ _ hC
    exact ⟨hh, hR.size, hR.defers, hR.tmps⟩
  simp only [VR] at hx
  rcases hx with ⟨r, M, cap, hlr, rfl, hn, hM, hcm⟩ | ⟨rfl, base, rfl⟩
  · cases n with
    | zero => exact ⟨w, by simp [Builtin.clear_, run_und he, Result.andThen], hsame, Fr.refl _ _ _⟩
    | succ n =>
      have hul : (zRow zs (n + 1)).length = (n + 1) * z := by rw [zRow_len, hz]
      obtain ⟨w', hr, hR', hF⟩ := hR.splice (P := P) (off := off) (us := zRow zs (n + 1)) (cs := B.cs.take off ++ (zRow zs (n + 1)).map AV.val ++ B.cs.drop (off + (n + 1) * z)) hB hlr (fun u hu => h1 u (zRow_mem hu)) (by rw [hul]; exact hin) (by
        intro vs hvs
        unfold spliceV
        rw [hul]
        refine ((hvs.take off).append ?_).append (hvs.drop _)
        exact vals_rel _)
      refine ⟨w', ?_, hR', hF⟩
      have hv0a : v0.cells = zs.toArray := by rw [← hv0c]
      have hr' : (storeCells ⟨r, off, none⟩ (Builtin.zeroCells v0.cells (n + 1)).toList).run P w = .ok () w' := by rw [hv0a]; exact hr
      simp [Builtin.clear_, run_und he, Result.andThen, hv0, hr']
  · exact ⟨w, by cases base <;> simp [Builtin.clear_, run_und he, Result.andThen], hsame, Fr.refl _ _ _⟩
def clrL (st : St) (ops : List Oper) (o : Oper) : Option (TypeId × AV) :=
  match o.dst, gOkL ops st o.guard, o.op with
  | none, some true, .call { callee := .builtin .clear, args, argTypes } => match argTypes.toList, args.toList with
    | [t], [x] => (st.eval x).map fun v => (t, v)
    | _, _ => none
  | _, _, _ => none
/-- clear(s): s lies in an own block. -/
theorem AOL.clr {P : Program} {ops : Array Oper} {o : Oper} {os : List Oper} {K : St → Prop} {st st' : St} {t e l off n z : Nat} {zs : List Value} {B : Blk}
    (hc : clrL st ops.toList o = some (t, .ref l off n z)) (he : P.underlying t = some (.slice e)) (h0 : tZero P e = some zs) (hz : zs.length = z) (h1 : ∀ v ∈ zs, v.oneCell' = true)
    (hB : get? l st.h = some B) (hin : off + n * z ≤ B.cs.length)
    (hst : { st with h := ins l { B with cs := B.cs.take off ++ (zRow zs n).map AV.val ++ B.cs.drop (off + n * z) } st.h } = st')
    (h : AOL P ops os K st') : AOL P ops (o :: os) K st := by
  subst hst
  intro i hi
  obtain ⟨ho, hi'⟩ := drop_cons hi
  rw [List.length_cons, List.range'_succ]
  unfold clrL at hc
  split at hc
  · rename_i args argTypes hdst hg hop
    rw [gOkL_eq] at hg
    split at hc
    · rename_i t' x ht hx
      simp only [Option.map_eq_some_iff, Prod.mk.injEq] at hc
      obtain ⟨v, hy, rfl, rfl⟩ := hc
      obtain rfl : argTypes = #[t'] := by rw [← Array.toArray_toList (xs := argTypes), ht]
      obtain rfl : args = #[x] := by rw [← Array.toArray_toList (xs := args), hx]
      intro ρ F a w Q hR hQ
      have hw := gOk_rel hR hg
      have hv := hR.get hy
      obtain ⟨w', hr, hR', hF⟩ := aClear_run (ty := o.type) hR hv he h0 hz h1 hB hin
      simp only [wpOps, ho, hw, if_true]
      refine .inl ?_
      simp [Oper.wp, hop, execOp, resolve, invoke, builtin, hr, Result.andThen, Oper.upon, hdst]
      exact h (i + 1) hi' ρ F _ w' Q (by simpa [Act.put] using hR') fun st' ρ'' F' a' w' hk hr hf => hQ st' ρ'' F' a' w' hk hr (hF.trans hf)
    · cases hc
  · cases hc
end Go.Proofs.Ytiikiamdbelbjaa.E

namespace Go.Proofs.Ytiikiamdbelbjaa.E
set_option linter.unusedVariables false
set_option linter.unusedSimpArgs false
/-! ## A call that reads own blocks -/
theorem AOL.callF {P : Program} {ops : Array Oper} {o : Oper} {os : List Oper} {K : St → Prop} {st st' : St} {g : FuncId} {as : List AV} {r : AV}
    (hc : callL st ops.toList o = some (g, as)) (hF : CallF P st.h as g r) (hcl : callable P g = true) (hst : st.put o.dst r = st' := by simp only [St.put, ins, del, reduceIte, Nat.reduceLT, Nat.reduceEqDiff]; exact rfl)
    (h : AOL P ops os K st') : AOL P ops (o :: os) K st := by
  subst hst
  intro i hi
  obtain ⟨ho, hi'⟩ := drop_cons hi
  rw [List.length_cons, List.range'_succ]
  intro ρ F a w Q hR hQ
  unfold callL at hc
  split at hc
  · rename_i hd hg
    rw [gOkL_eq] at hg
    obtain ⟨vs, hrun, hvs⟩ := callOf_run hR hc hcl
    have hw := gOk_rel hR hg
    simp only [wpOps, ho, hw, if_true]
    refine .inl ?_
    simp only [Oper.wp, hrun, Oper.upon]
    refine (hF.run hR.heap hvs).mono ?_
    rintro e w' ⟨u, ρ', F', rfl, hvr, hfr', hlt⟩
    obtain ⟨hA, hFr⟩ := hR.ext hfr' hlt
    exact h (i + 1) hi' ρ F' _ w' Q (hA.put (dOk_lt hd) (hvr ρ)) fun st' ρ'' F'' a' w'' h1 h2 h3 => hQ st' ρ'' F'' a' w'' h1 h2 (hFr.trans h3)
  · cases hc
end Go.Proofs.Ytiikiamdbelbjaa.E

namespace Go.Proofs.Ytiikiamdbelbjaa.E
set_option linter.unusedVariables false
set_option linter.unusedSimpArgs false
/-! ## A slice against nil: it may be either, but a nil one has no elements -/
def nilLen : AV → Option Nat
  | .sl n _ => some n
  | .ref _ _ n _ => some n
  | .emp => some 0
  | _ => none
def nilL (P : Program) (st : St) (ops : List Oper) (o : Oper) : Option Nat :=
  match dOk st.n o.dst, gOkL ops st o.guard, o.op with
  | true, some true, .binOp .eql t x (.const (.slice none 0 0)) _ => match tSlice P t with
    | some _ => (st.eval x).bind nilLen
    | none => none
  | _, _, _ => none
theorem eqSlNil {P : Program} (w : World) (d : Nat) (t e : TypeId) (a : Option Addr) (n c : Nat) (h : P.underlying t = some (.slice e)) :
    (Op.equalIn (d + 1) t (.slice a n c) (.slice none 0 0)).run P w = .ok a.isNone w := by
  cases a <;> simp [Op.equalIn, run_underlying h]
theorem binSlNil {P : Program} (w : World) (t e : TypeId) (a : Option Addr) (n c : Nat) (h : P.underlying t = some (.slice e)) :
    (binOp .eql t (.slice a n c) (.slice none 0 0)).run P w = .ok (.bool a.isNone) w := by
  simp only [binOp]
  simp [Op.equal, Op.maxDepth, eqSlNil w 9999 t e a n c h]
theorem AOL.eqNil {P : Program} {ops : Array Oper} {o : Oper} {os : List Oper} {K : St → Prop} {st : St} {st' : Bool → St} {n : Nat}
    (hc : nilL P st ops.toList o = some n) (hst : ∀ b : Bool, st.put o.dst (.val (.bool b)) = st' b := by intro b; simp only [St.put, ins, del, reduceIte, Nat.reduceLT, Nat.reduceEqDiff]; exact rfl)
    (h : ∀ b : Bool, (b = true → n = 0) → AOL P ops os K (st' b)) : AOL P ops (o :: os) K st := by
  obtain rfl : st' = fun b => st.put o.dst (.val (.bool b)) := funext fun b => (hst b).symm
  intro i hi
  obtain ⟨ho, hi'⟩ := drop_cons hi
  rw [List.length_cons, List.range'_succ]
  unfold nilL at hc
  split at hc
  · rename_i t x _ hd hg hop
    rw [gOkL_eq] at hg
    split at hc
    · rename_i e he
      simp only [Option.bind_eq_some_iff] at hc
      obtain ⟨c, hx, hn⟩ := hc
      have hu := tSlice_u he
      intro ρ F a w Q hR hQ
      have hw := gOk_rel hR hg
      have hv := hR.get hx
      have key : ∃ base n' cap, a.eval x = .slice base n' cap ∧ (base.isNone = true → n = 0) := by
        cases c <;> simp only [nilLen, Option.some.injEq, reduceCtorEq] at hn
        · subst hn
          simp only [VR] at hv
          rcases hv with ⟨r, m, cap, _, e1, _⟩ | ⟨rfl, base, e1⟩
          · exact ⟨_, _, _, e1, fun h => by cases h⟩
          · exact ⟨_, _, _, e1, fun _ => rfl⟩
        · subst hn
          simp only [VR] at hv
          obtain ⟨base, cap, vs, e1, h1, h2, h3, h4, h5, h6⟩ := hv
          exact ⟨_, _, _, e1, fun h => by have := h5 (by cases base <;> simp_all); omega⟩
        · subst hn
          simp only [VR] at hv
          obtain ⟨base, e1⟩ := hv
          exact ⟨_, _, _, e1, fun _ => rfl⟩
      obtain ⟨base, n', cap, e1, e2⟩ := key
      simp only [wpOps, ho, hw, if_true]
      refine .inl ?_
      have hrun : (execOp a.eval o).run P w = .ok (.value (.bool base.isNone)) w := by
        have h1 : ∀ oy, (eqGuard .eql t x oy (.slice base n' cap) (.slice none 0 0)).run P w = .ok () w := fun oy => by simp [eqGuard]
        have h2 := binSlNil w t e base n' cap hu
        have h0 : a.eval (.const (.slice none 0 0)) = .slice none 0 0 := rfl
        simp only [execOp, hop, e1, h0, Sem.run_bind, h1, h2, Result.andThen, Sem.run_pure]
      simp only [Oper.wp, hrun, Oper.upon]
      exact h _ e2 (i + 1) hi' ρ F _ w Q (hR.put (dOk_lt hd) (by simp only [VR])) fun st' ρ'' F'' a' w'' h1 h2 h3 => hQ st' ρ'' F'' a' w'' h1 h2 h3
    · cases hc
  · cases hc
/-! ## A pointer against nil -/
def isPtr : AV → Bool
  | .ptr _ _ => true
  | .fptr _ => true
  | _ => false
def ptrL (P : Program) (st : St) (ops : List Oper) (o : Oper) : Bool :=
  match dOk st.n o.dst, gOkL ops st o.guard, o.op with
  | true, some true, .binOp .eql t x (.const (.pointer none)) _ => match P.underlying t, st.eval x with
    | some (.pointer _), some c => isPtr c
    | _, _ => false
  | _, _, _ => false
theorem binPtrNil {P : Program} (w : World) (t e : TypeId) (a : Addr) (h : P.underlying t = some (.pointer e)) :
    (binOp .eql t (.pointer (some a)) (.pointer none)).run P w = .ok (.bool false) w := by
  have h1 : ∀ d, (Op.equalIn (d + 1) t (.pointer (some a)) (.pointer none)).run P w = .ok false w := fun d => by simp [Op.equalIn, run_underlying h]
  simp only [binOp]
  simp [Op.equal, Op.maxDepth, h1 9999]
theorem AOL.ptrNil {P : Program} {ops : Array Oper} {o : Oper} {os : List Oper} {K : St → Prop} {st st' : St}
    (hc : ptrL P st ops.toList o = true) (hst : st.put o.dst (.val (.bool false)) = st' := by simp only [St.put, ins, del, reduceIte, Nat.reduceLT, Nat.reduceEqDiff]; exact rfl)
    (h : AOL P ops os K st') : AOL P ops (o :: os) K st := by
  subst hst
  intro i hi
  obtain ⟨ho, hi'⟩ := drop_cons hi
  rw [List.length_cons, List.range'_succ]
  unfold ptrL at hc
  split at hc
  · rename_i t x _ hd hg hop
    rw [gOkL_eq] at hg
    split at hc
    · rename_i e c hu hx
      intro ρ F a w Q hR hQ
      have hw := gOk_rel hR hg
      have hv := hR.get hx
      have key : ∃ p, a.eval x = .pointer (some p) := by
        cases c <;> simp only [isPtr, Bool.false_eq_true] at hc
        · simp only [VR] at hv
          obtain ⟨r, m, _, e1⟩ := hv
          exact ⟨_, e1⟩
        · simp only [VR] at hv
          obtain ⟨p, vs, e1, _⟩ := hv
          exact ⟨_, e1⟩
      obtain ⟨p, e1⟩ := key
      simp only [wpOps, ho, hw, if_true]
      refine .inl ?_
      have hrun : (execOp a.eval o).run P w = .ok (.value (.bool false)) w := by
        have h1 : ∀ oy, (eqGuard .eql t x oy (.pointer (some p)) (.pointer none)).run P w = .ok () w := fun oy => by simp [eqGuard]
        have h2 := binPtrNil w t e p hu
        have h0 : a.eval (.const (.pointer none)) = .pointer none := rfl
        simp only [execOp, hop, e1, h0, Sem.run_bind, h1, h2, Result.andThen, Sem.run_pure]
      simp only [Oper.wp, hrun, Oper.upon]
      exact h (i + 1) hi' ρ F _ w Q (hR.put (dOk_lt hd) (by simp only [VR])) fun st' ρ'' F'' a' w'' h1 h2 h3 => hQ st' ρ'' F'' a' w'' h1 h2 h3
    · cases hc
  · cases hc
end Go.Proofs.Ytiikiamdbelbjaa.E
