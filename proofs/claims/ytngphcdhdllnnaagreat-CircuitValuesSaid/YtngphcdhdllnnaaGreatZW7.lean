/- Texts joined: ZVEK, ZVSma, ZVItv, ZVItc, ZVSof, ZVIbr, ZVDf, ZVSm, ZVQapC. -/
import Derived.Test.YtngphcdhdllnnaaGreatZW6
import Derived.Test.YtngphcdhdllnnaaGreatZW5
import Derived.Test.YtngphcdhdllnnaaGreatProg
import Derived.KernelRfl
import Derived.RangeFuncNested
import Derived.RangeFuncBox
import Derived.RangeFuncBound
import Derived.RangeFuncCalls
import Derived.RangeFuncLeaves
import Derived.Shelf.Abstract
import Derived.WalkKit
import Derived.OwnWalkIn
import Derived.TacticsInMore
import Derived.LoopNIn
import Derived.LoopIn
import Derived.Maps.AppendAt
import Derived.Shelf.SlSortCmp.NoneTotal
import Derived.Shelf.SlicesG.Cmp
import Derived.Shelf.Lay
import Derived.Ground.SlgcProg
import Derived.Ground.SlsfProg
section
/- E, a reader of Go's code «as» the model has it: a contract of a function is proved over values that are told without memory (EK). -/


set_option linter.unusedVariables false
set_option linter.unusedSimpArgs false
open Go
namespace Go.Proofs.YtngphcdhdllnnaaGreat.E
set_option linter.unusedVariables false
set_option linter.unusedSimpArgs false
/-- A contract that was proved otherwise, whose result may stand in blocks that the call has laid, which are not written any more. -/
theorem Fn.ofCallsF {P : Program} {f : FuncId} {«as» : List AV} {R : AV → Prop}
    (h : ∀ ρ F w (vs : List Value), VRs ρ F w «as» vs → (∀ b, F b → b < w.heap.size) → Calls P f vs.toArray w fun e w' => ∃ v r, e = .returned v ∧ R r ∧ Go.RowKit.Below w.heap.size w w' ∧ VR (fun _ => none) (fun b => F b ∨ (w.heap.size ≤ b ∧ b < w'.heap.size)) w' r v) :
    Fn P f «as» [] (fun q _ => R q) := by
  intro ρ F w vs hh hv
  refine (h ρ F w vs hv hh.flt).mono ?_
  rintro e w' ⟨v, r, rfl, hR, hb, hr⟩
  refine ⟨v, ρ, fun b => F b ∨ (w.heap.size ≤ b ∧ b < w'.heap.size), r, [], rfl, hR, VR.keep (fun _ h => h) (fun _ _ _ _ h => h) (fun _ _ h => by cases h) _ _ hr, ⟨by simp, hh.inj, ?_, fun l r m hl => Nat.lt_of_lt_of_le (hh.lt l r m hl) hb.size, ?_⟩, ?_⟩
  · rintro l b m hl (hF | ⟨h1, _⟩)
    · exact hh.apart l b m hl hF
    · have := hh.lt l b m hl; omega
  · rintro b (hF | ⟨_, h2⟩)
    · exact Nat.lt_of_lt_of_le (hh.flt b hF) hb.size
    · exact h2
  exact { os := hb.os, tape := hb.tape, output := hb.output, size := hb.size, block := fun k hk _ => hb.block k hk, froz := fun _ h => .inl h
          froz' := fun b hb' => by rcases hb' with h | ⟨h, _⟩; exact .inl h; exact .inr (.inr h)
          own := fun l r m h => .inl ⟨l, m, h⟩
          same := fun l _ x y h h' => by rw [h] at h'; exact Option.some.inj h'
          gone := fun _ _ h => h }
end Go.Proofs.YtngphcdhdllnnaaGreat.E

namespace Go.Proofs.YtngphcdhdllnnaaGreat.E
set_option linter.unusedVariables false
set_option linter.unusedSimpArgs false
/-! ## clear(s) of a slice of an own block -/
def zRow (zs : List Value) (n : Nat) : List Value := (Builtin.zeroCells zs.toArray n).toList
theorem zRow_len (zs : List Value) (n : Nat) : (zRow zs n).length = n * zs.length := by simp [zRow, Builtin.zeroCells]
theorem zRow_mem {zs : List Value} {n : Nat} {v : Value} (h : v ∈ zRow zs n) : v ∈ zs := by
  simp only [zRow, Builtin.zeroCells, Array.toList_map, List.mem_map, Array.mem_toList_iff, Array.mem_range] at h
  obtain ⟨i, hi, rfl⟩ := h
  have hp : 0 < zs.length := by
    rcases Nat.eq_zero_or_pos zs.length with h | h
    · simp [h] at hi
    · exact h
  have hlt : i % zs.length < zs.length := Nat.mod_lt _ hp
  simp [hlt]
theorem aClear_run {P : Program} {ρ F st a w} (hR : Rel ρ F st a w) {t ty e l off n z : Nat} {zs : List Value} {y : Value} {B : Blk} (hx : VR ρ F w (.ref l off n z) y)
    (he : P.underlying t = some (.slice e)) (h0 : tZero P e = some zs) (hz : zs.length = z) (h1 : ∀ v ∈ zs, v.oneCell' = true) (hB : get? l st.h = some B) (hin : off + n * z ≤ B.cs.length) :
    ∃ w', (Builtin.clear_ #[t] ty #[y]).run P w = .ok (.tuple #[]) w' ∧ Rel ρ F { st with h := ins l { B with cs := B.cs.take off ++ (zRow zs n).map AV.val ++ B.cs.drop (off + n * z) } st.h } a w' ∧ Fr ρ F w ρ F w' := by
  obtain ⟨v0, hv0, hv0c⟩ := run_tZero (w := w) h0
  have hsame : Rel ρ F { st with h := ins l { B with cs := B.cs.take off ++ (zRow zs 0).map AV.val ++ B.cs.drop (off + 0 * z) } st.h } a w := by
    have e0 : (zRow zs 0).map AV.val = [] := by simp [zRow, Builtin.zeroCells]
    rw [e0, Nat.zero_mul, Nat.add_zero, List.append_nil, List.take_append_drop]
    have hh : HRel ρ F (ins l B st.h) w := by
      refine ⟨fun k C hC => ?_, hR.heap.inj, hR.heap.apart, hR.heap.lt, hR.heap.flt⟩
      rcases mem_ins hC with e1 | ⟨hC, _⟩
      · cases e1; exact hR.heap.blk _ _ (get?_mem hB)
      · exact hR.heap.blk _ _ hC
    exact ⟨hh, hR.size, hR.defers, hR.tmps⟩
  simp only [VR] at hx
  rcases hx with ⟨r, M, cap, hlr, rfl, hn, hM, hcm⟩ | ⟨rfl, base, rfl⟩
  · cases n with
    | zero => exact ⟨w, by simp [Builtin.clear_, run_und he, Result.andThen], hsame, Fr.refl _ _ _⟩
    | succ n =>
      have hul : (zRow zs (n + 1)).length = (n + 1) * z := by rw [zRow_len, hz]
      obtain ⟨w', hr, hR', hF⟩ := hR.splice (P := P) (off := off) (us := zRow zs (n + 1)) (cs := B.cs.take off ++ (zRow zs (n + 1)).map AV.val ++ B.cs.drop (off + (n + 1) * z)) hB hlr (fun u hu => h1 u (zRow_mem hu)) (by rw [hul]; exact hin) (by
        intro vs hvs
        unfold spliceV
        rw [hul]
        refine ((hvs.take off).append ?_).append (hvs.drop _)
        exact vals_rel _)
      refine ⟨w', ?_, hR', hF⟩
      have hv0a : v0.cells = zs.toArray := by rw [← hv0c]
      have hr' : (storeCells ⟨r, off, none⟩ (Builtin.zeroCells v0.cells (n + 1)).toList).run P w = .ok () w' := by rw [hv0a]; exact hr
      simp [Builtin.clear_, run_und he, Result.andThen, hv0, hr']
  · exact ⟨w, by cases base <;> simp [Builtin.clear_, run_und he, Result.andThen], hsame, Fr.refl _ _ _⟩
def clrL (st : St) (ops : List Oper) (o : Oper) : Option (TypeId × AV) :=
  match o.dst, gOkL ops st o.guard, o.op with
  | none, some true, .call { callee := .builtin .clear, args, argTypes } => match argTypes.toList, args.toList with
    | [t], [x] => (st.eval x).map fun v => (t, v)
    | _, _ => none
  | _, _, _ => none
/-- clear(s): s lies in an own block. -/
theorem AOL.clr {P : Program} {ops : Array Oper} {o : Oper} {os : List Oper} {K : St → Prop} {st st' : St} {t e l off n z : Nat} {zs : List Value} {B : Blk}
    (hc : clrL st ops.toList o = some (t, .ref l off n z)) (he : P.underlying t = some (.slice e)) (h0 : tZero P e = some zs) (hz : zs.length = z) (h1 : ∀ v ∈ zs, v.oneCell' = true)
    (hB : get? l st.h = some B) (hin : off + n * z ≤ B.cs.length)
    (hst : { st with h := ins l { B with cs := B.cs.take off ++ (zRow zs n).map AV.val ++ B.cs.drop (off + n * z) } st.h } = st')
    (h : AOL P ops os K st') : AOL P ops (o :: os) K st := by
  subst hst
  intro i hi
  obtain ⟨ho, hi'⟩ := drop_cons hi
  rw [List.length_cons, List.range'_succ]
  unfold clrL at hc
  split at hc
  · rename_i args argTypes hdst hg hop
    rw [gOkL_eq] at hg
    split at hc
    · rename_i t' x ht hx
      simp only [Option.map_eq_some_iff, Prod.mk.injEq] at hc
      obtain ⟨v, hy, rfl, rfl⟩ := hc
      obtain rfl : argTypes = #[t'] := by rw [← Array.toArray_toList (xs := argTypes), ht]
      obtain rfl : args = #[x] := by rw [← Array.toArray_toList (xs := args), hx]
      intro ρ F a w Q hR hQ
      have hw := gOk_rel hR hg
      have hv := hR.get hy
      obtain ⟨w', hr, hR', hF⟩ := aClear_run (ty := o.type) hR hv he h0 hz h1 hB hin
      simp only [wpOps, ho, hw, if_true]
      refine .inl ?_
      simp [Oper.wp, hop, execOp, resolve, invoke, builtin, hr, Result.andThen, Oper.upon, hdst]
      exact h (i + 1) hi' ρ F _ w' Q (by simpa [Act.put] using hR') fun st' ρ'' F' a' w' hk hr hf => hQ st' ρ'' F' a' w' hk hr (hF.trans hf)
    · cases hc
  · cases hc
end Go.Proofs.YtngphcdhdllnnaaGreat.E

namespace Go.Proofs.YtngphcdhdllnnaaGreat.E
set_option linter.unusedVariables false
set_option linter.unusedSimpArgs false
/-! ## A call that reads own blocks -/
theorem AOL.callF {P : Program} {ops : Array Oper} {o : Oper} {os : List Oper} {K : St → Prop} {st st' : St} {g : FuncId} {«as» : List AV} {r : AV}
    (hc : callL st ops.toList o = some (g, «as»)) (hF : CallF P st.h «as» g r) (hcl : callable P g = true) (hst : st.put o.dst r = st' := by simp only [St.put, ins, del, reduceIte, Nat.reduceLT, Nat.reduceEqDiff]; exact rfl)
    (h : AOL P ops os K st') : AOL P ops (o :: os) K st := by
  subst hst
  intro i hi
  obtain ⟨ho, hi'⟩ := drop_cons hi
  rw [List.length_cons, List.range'_succ]
  intro ρ F a w Q hR hQ
  unfold callL at hc
  split at hc
  · rename_i hd hg
    rw [gOkL_eq] at hg
    obtain ⟨vs, hrun, hvs⟩ := callOf_run hR hc hcl
    have hw := gOk_rel hR hg
    simp only [wpOps, ho, hw, if_true]
    refine .inl ?_
    simp only [Oper.wp, hrun, Oper.upon]
    refine (hF.run hR.heap hvs).mono ?_
    rintro e w' ⟨u, ρ', F', rfl, hvr, hfr', hlt⟩
    obtain ⟨hA, hFr⟩ := hR.ext hfr' hlt
    exact h (i + 1) hi' ρ F' _ w' Q (hA.put (dOk_lt hd) (hvr ρ)) fun st' ρ'' F'' a' w'' h1 h2 h3 => hQ st' ρ'' F'' a' w'' h1 h2 (hFr.trans h3)
  · cases hc
end Go.Proofs.YtngphcdhdllnnaaGreat.E

namespace Go.Proofs.YtngphcdhdllnnaaGreat.E
set_option linter.unusedVariables false
set_option linter.unusedSimpArgs false
/-! ## A slice against nil: it may be either, but a nil one has no elements -/
def nilLen : AV → Option Nat
  | .sl n _ => some n
  | .ref _ _ n _ => some n
  | .emp => some 0
  | _ => none
def nilL (P : Program) (st : St) (ops : List Oper) (o : Oper) : Option Nat :=
  match dOk st.n o.dst, gOkL ops st o.guard, o.op with
  | true, some true, .binOp .eql t x (.const (.slice none 0 0)) _ => match tSlice P t with
    | some _ => (st.eval x).bind nilLen
    | none => none
  | _, _, _ => none
theorem eqSlNil {P : Program} (w : World) (d : Nat) (t e : TypeId) (a : Option Addr) (n c : Nat) (h : P.underlying t = some (.slice e)) :
    (Op.equalIn (d + 1) t (.slice a n c) (.slice none 0 0)).run P w = .ok a.isNone w := by
  cases a <;> simp [Op.equalIn, run_underlying h]
theorem binSlNil {P : Program} (w : World) (t e : TypeId) (a : Option Addr) (n c : Nat) (h : P.underlying t = some (.slice e)) :
    (binOp .eql t (.slice a n c) (.slice none 0 0)).run P w = .ok (.bool a.isNone) w := by
  simp only [binOp]
  simp [Op.equal, Op.maxDepth, eqSlNil w 9999 t e a n c h]
theorem AOL.eqNil {P : Program} {ops : Array Oper} {o : Oper} {os : List Oper} {K : St → Prop} {st : St} {st' : Bool → St} {n : Nat}
    (hc : nilL P st ops.toList o = some n) (hst : ∀ b : Bool, st.put o.dst (.val (.bool b)) = st' b := by intro b; simp only [St.put, ins, del, reduceIte, Nat.reduceLT, Nat.reduceEqDiff]; exact rfl)
    (h : ∀ b : Bool, (b = true → n = 0) → AOL P ops os K (st' b)) : AOL P ops (o :: os) K st := by
  obtain rfl : st' = fun b => st.put o.dst (.val (.bool b)) := funext fun b => (hst b).symm
  intro i hi
  obtain ⟨ho, hi'⟩ := drop_cons hi
  rw [List.length_cons, List.range'_succ]
  unfold nilL at hc
  split at hc
  · rename_i t x _ hd hg hop
    rw [gOkL_eq] at hg
    split at hc
    · rename_i e he
      simp only [Option.bind_eq_some_iff] at hc
      obtain ⟨c, hx, hn⟩ := hc
      have hu := tSlice_u he
      intro ρ F a w Q hR hQ
      have hw := gOk_rel hR hg
      have hv := hR.get hx
      have key : ∃ base n' cap, a.eval x = .slice base n' cap ∧ (base.isNone = true → n = 0) := by
        cases c <;> simp only [nilLen, Option.some.injEq, reduceCtorEq] at hn
        · subst hn
          simp only [VR] at hv
          rcases hv with ⟨r, m, cap, _, e1, _⟩ | ⟨rfl, base, e1⟩
          · exact ⟨_, _, _, e1, fun h => by cases h⟩
          · exact ⟨_, _, _, e1, fun _ => rfl⟩
        · subst hn
          simp only [VR] at hv
          obtain ⟨base, cap, vs, e1, h1, h2, h3, h4, h5, h6⟩ := hv
          exact ⟨_, _, _, e1, fun h => by have := h5 (by cases base <;> simp_all); omega⟩
        · subst hn
          simp only [VR] at hv
          obtain ⟨base, e1⟩ := hv
          exact ⟨_, _, _, e1, fun _ => rfl⟩
      obtain ⟨base, n', cap, e1, e2⟩ := key
      simp only [wpOps, ho, hw, if_true]
      refine .inl ?_
      have hrun : (execOp a.eval o).run P w = .ok (.value (.bool base.isNone)) w := by
        have h1 : ∀ oy, (eqGuard .eql t x oy (.slice base n' cap) (.slice none 0 0)).run P w = .ok () w := fun oy => by simp [eqGuard]
        have h2 := binSlNil w t e base n' cap hu
        have h0 : a.eval (.const (.slice none 0 0)) = .slice none 0 0 := rfl
        simp only [execOp, hop, e1, h0, Sem.run_bind, h1, h2, Result.andThen, Sem.run_pure]
      simp only [Oper.wp, hrun, Oper.upon]
      exact h _ e2 (i + 1) hi' ρ F _ w Q (hR.put (dOk_lt hd) (by simp only [VR])) fun st' ρ'' F'' a' w'' h1 h2 h3 => hQ st' ρ'' F'' a' w'' h1 h2 h3
    · cases hc
  · cases hc
/-! ## A pointer against nil -/
def isPtr : AV → Bool
  | .ptr _ _ => true
  | .fptr _ => true
  | _ => false
def ptrL (P : Program) (st : St) (ops : List Oper) (o : Oper) : Bool :=
  match dOk st.n o.dst, gOkL ops st o.guard, o.op with
  | true, some true, .binOp .eql t x (.const (.pointer none)) _ => match P.underlying t, st.eval x with
    | some (.pointer _), some c => isPtr c
    | _, _ => false
  | _, _, _ => false
theorem binPtrNil {P : Program} (w : World) (t e : TypeId) (a : Addr) (h : P.underlying t = some (.pointer e)) :
    (binOp .eql t (.pointer (some a)) (.pointer none)).run P w = .ok (.bool false) w := by
  have h1 : ∀ d, (Op.equalIn (d + 1) t (.pointer (some a)) (.pointer none)).run P w = .ok false w := fun d => by simp [Op.equalIn, run_underlying h]
  simp only [binOp]
  simp [Op.equal, Op.maxDepth, h1 9999]
theorem AOL.ptrNil {P : Program} {ops : Array Oper} {o : Oper} {os : List Oper} {K : St → Prop} {st st' : St}
    (hc : ptrL P st ops.toList o = true) (hst : st.put o.dst (.val (.bool false)) = st' := by simp only [St.put, ins, del, reduceIte, Nat.reduceLT, Nat.reduceEqDiff]; exact rfl)
    (h : AOL P ops os K st') : AOL P ops (o :: os) K st := by
  subst hst
  intro i hi
  obtain ⟨ho, hi'⟩ := drop_cons hi
  rw [List.length_cons, List.range'_succ]
  unfold ptrL at hc
  split at hc
  · rename_i t x _ hd hg hop
    rw [gOkL_eq] at hg
    split at hc
    · rename_i e c hu hx
      intro ρ F a w Q hR hQ
      have hw := gOk_rel hR hg
      have hv := hR.get hx
      have key : ∃ p, a.eval x = .pointer (some p) := by
        cases c <;> simp only [isPtr, Bool.false_eq_true] at hc
        · simp only [VR] at hv
          obtain ⟨r, m, _, e1⟩ := hv
          exact ⟨_, e1⟩
        · simp only [VR] at hv
          obtain ⟨p, vs, e1, _⟩ := hv
          exact ⟨_, e1⟩
      obtain ⟨p, e1⟩ := key
      simp only [wpOps, ho, hw, if_true]
      refine .inl ?_
      have hrun : (execOp a.eval o).run P w = .ok (.value (.bool false)) w := by
        have h1 : ∀ oy, (eqGuard .eql t x oy (.pointer (some p)) (.pointer none)).run P w = .ok () w := fun oy => by simp [eqGuard]
        have h2 := binPtrNil w t e p hu
        have h0 : a.eval (.const (.pointer none)) = .pointer none := rfl
        simp only [execOp, hop, e1, h0, Sem.run_bind, h1, h2, Result.andThen, Sem.run_pure]
      simp only [Oper.wp, hrun, Oper.upon]
      exact h (i + 1) hi' ρ F _ w Q (hR.put (dOk_lt hd) (by simp only [VR])) fun st' ρ'' F'' a' w'' h1 h2 h3 => hQ st' ρ'' F'' a' w'' h1 h2 h3
    · cases hc
  · cases hc
end Go.Proofs.YtngphcdhdllnnaaGreat.E

namespace Go.Proofs.YtngphcdhdllnnaaGreat.E
set_option linter.unusedVariables false
set_option linter.unusedSimpArgs false
/-! ## Calls that write own blocks, one behind the other, in a region that is drawn; what floats beside them reads other blocks -/
theorem drops_t_mem {t : Nat} {v : AV} : ∀ (Ls : List Nat) {st : St}, (∀ l ∈ Ls, kill l v = v) → (t, v) ∈ st.t → (t, v) ∈ (st.drops Ls).t
  | [], _, _, h => h
  | l :: r, st, hk, h => by
    have h1 : (t, kill l v) ∈ (st.drop l).t := mem_mapT' h
    rw [hk l (by simp)] at h1
    exact drops_t_mem r (fun l hl => hk l (List.mem_cons_of_mem _ hl)) h1
/-- a call among those: what it needs, and what it leaves -/
def CutF (P : Program) (st : St) (os : List Oper) (vs : List (AV × Option Blk)) (o : Oper) (v : AV) (h h' : List (Nat × Blk)) (Ls : List Nat) : Prop :=
  dOk st.n o.dst = true ∧ o.guard = none ∧ ∀ (T : List (Nat × AV)) (K' : St → Prop), K' (({ (St.drops ⟨st.n, (dViewL st os vs [] o).t ++ T, h⟩ Ls) with h := h' } : St).put o.dst v) →
    AOL P #[o] [o] K' ⟨st.n, (dViewL st os vs [] o).t ++ T, h⟩
theorem AW.drawM {P : Program} {id : Nat} {ops : Array Oper} {K : Exit → St → Prop} {st : St} (hmix : P.follows .mixedOrders = true) {m C : Nat} {cut : Nat → Nat} {H : Nat → List (Nat × Blk)} {Hc : List (Nat × Blk)} {Ls : List Nat} {vs : List (AV × Option Blk)} {val : Nat → AV}
    (hm : m ≤ ops.size) (ht : tailOk ops m = true) (hnd : (dsts (ops.toList.take m)).Nodup) (hcm : ∀ q, q < C → cut q < m) (hinj : ∀ q q', q < C → q' < C → cut q = cut q' → q = q')
    (hchain : ∀ q q', q < q' → q' < C → ∀ S : Nat → Bool, Closed ops S → S (cut q') = true → S (cut q) = true)
    (hH0 : H 0 = st.h) (hHc : ∀ q, q ≤ C → ∀ p ∈ Hc, p ∈ H q) (hvl : vs.length = m) (hvn : ∀ v ∈ vs, v.2 = none) (hv : ∀ q, q < C → vs[cut q]? = some (val q, none))
    (hkt : ∀ l ∈ Ls, ∀ p ∈ st.t, kill l p.2 = p.2) (hkv : ∀ l ∈ Ls, ∀ v ∈ vs, kill l v.1 = v.1)
    (hcut : ∀ (q : Nat) (o : Oper), q < C → (ops.toList.take m)[cut q]? = some o → CutF P st (ops.toList.take m) vs o (val q) (H q) (H (q + 1)) Ls)
    (f : ∀ (i : Nat) (o : Oper) (v : AV × Option Blk), (∀ q, q < C → i ≠ cut q) → (ops.toList.take m)[i]? = some o → vs[i]? = some v → DFact P ⟨st.n, st.t, Hc⟩ ops (ops.toList.take m) vs i o v)
    (hT : AOps P ops (List.range' m (ops.size - m)) (K .normal) (dSt ⟨st.n, st.t, H C⟩ (ops.toList.take m) vs fun _ => true)) : AW P (.region id ops true) K st := by
  intro ρ F a w Q hR hQ
  refine wp_region_any hmix ?_
  have hw1 : Rel ρ F st a { w with drawn := w.drawn + 1 } :=
    ⟨⟨fun l B hB => by
        rcases hR.heap.blk l B hB with h | ⟨r, m, c, h1, h2, h3, us, h4, h5⟩
        · exact .inl h
        · exact .inr ⟨r, m, c, h1, h2, h3, us, VRs.keep (w := w) (w' := { w with drawn := w.drawn + 1 }) (fun _ h => h) (fun _ _ _ _ h => h) (fun _ _ h => h) _ _ h4, h5⟩, hR.heap.inj, hR.heap.apart, hR.heap.lt, hR.heap.flt⟩, hR.size, hR.defers,
      fun t v hv => ⟨(hR.tmps t v hv).1, VR.keep (w := w) (w' := { w with drawn := w.drawn + 1 }) (fun _ h => h) (fun _ _ _ _ h => h) (fun _ _ h => h) _ _ (hR.tmps t v hv).2⟩⟩
  have hFd : Fr ρ F w ρ F { w with drawn := w.drawn + 1 } :=
    ⟨rfl, rfl, rfl, Nat.le_refl _, fun _ _ _ => rfl, fun _ h => h, fun _ h => .inl h, fun l r m h => .inl ⟨l, m, h⟩, fun _ _ x y h k => by rw [h] at k; exact Option.some.inj k, fun _ _ h => h⟩
  generalize hos : ops.toList.take m = os at *
  have hosget : ∀ i, i < m → os[i]? = ops[i]? := by
    intro i hi; rw [← hos, List.getElem?_take, if_pos hi, Array.getElem?_toList]
  have hnone : ∀ (i : Nat) (v : AV × Option Blk), vs[i]? = some v → v.2 = none := fun i v h => hvn v (List.mem_of_getElem? h)
  have mkInv : ∀ {s : St} {S ρ F a w}, Rel ρ F (dSt s os vs S) a w → Inv s os vs S ρ F a w := by
    intro s S ρ F a w h
    exact ⟨h, fun i o v d _ h2 _ _ h5 => by rw [hnone i v h2] at h5; cases h5⟩
  have hno : ∀ {s : St}, ∀ (j : Nat) (o' : Oper) (v' : AV × Option Blk) (d : Tmp), os[j]? = some o' → vs[j]? = some v' → o'.dst = some d → v'.2.isSome = true → ∀ C, (lab d, C) ∉ s.h := by
    intro s j o' v' d _ h2 _ h4
    rw [hnone j v' h2] at h4; cases h4
  have noH : ∀ {S : Nat → Bool}, ∀ p, p ∉ partH S 0 os vs := by
    intro S p hp
    obtain ⟨j, o', v', d, h1, h2, h3, h4, h5, h6⟩ := mem_partH.1 hp
    rw [hnone j v' h2] at h6; cases h6
  refine draw_anyJ (J := fun S ρ F a w => ∃ p, p ≤ C ∧ (∀ d, d < p → S (cut d) = true) ∧ (∀ d, p ≤ d → d < C → S (cut d) = false) ∧ Rel ρ F (dSt ⟨st.n, st.t, H p⟩ os vs S) a w) (K := K .normal) (ρ0 := ρ) (F0 := F) (w0 := w) (stf := dSt ⟨st.n, st.t, H C⟩ os vs fun _ => true) hm ht ?_ ?_ hT (fun st' ρ' F' a' w' h1 h2 h3 => hQ _ st' ρ' F' a' w' h1 h2 h3) ops.size (ρ := ρ) (F := F) (by simp) ?_ ?_ ?_ ?_ hFd
  · rintro S ρ F a w i o N ho him hSi hp hcl hlm ⟨p, hpC, hp1, hp2, hI⟩ hN
    have hoi : os[i]? = some o := by rw [hosget i him]; exact ho
    have hcl1 : ∀ (j : Nat) (o' : Oper), os[j]? = some o' → S j = true → ∀ k ∈ dpreds o', S k = true := fun j o' h1 h2 => hcl j o' (by
      have hjm : j < m := by
        have := (List.getElem?_eq_some_iff.1 h1).1
        rw [← hos, List.length_take] at this; omega
      rw [← hosget j hjm]; exact h1) h2
    have base : ∀ (p : Nat × AV), p ∈ dropTs (dsts os) st.t → p ∈ st.t ∧ p.1 ∉ dstsS S 0 os := by
      intro p h
      have h' := mem_dropTs h
      refine ⟨h'.1, fun hm => h'.2 ?_⟩
      obtain ⟨j, o', h1, h2, h3⟩ := mem_dstsS.1 hm
      exact dsts_mem h1 h3
    by_cases hcutE : ∃ d, d < C ∧ cut d = i
    · obtain ⟨d, hdC, hd⟩ := hcutE
      have hdp : d = p := by
        rcases Nat.lt_trichotomy d p with h | h | h
        · have := hp1 d h; rw [hd, hSi] at this; cases this
        · exact h
        · have h2 := hp2 p (Nat.le_refl _) (by omega)
          have hc2 : Closed ops (upd S i) := by
            intro j o' ho' hj k hk
            simp only [upd, Bool.or_eq_true, beq_iff_eq] at hj ⊢
            rcases hj with hj | rfl
            · exact .inl (hcl j o' ho' hj k hk)
            · rw [ho] at ho'; cases ho'; exact .inl (hp k hk)
          have := hchain p d h hdC _ hc2 (by rw [hd]; simp [upd])
          simp only [upd, Bool.or_eq_true, beq_iff_eq] at this
          rcases this with h' | h'
          · rw [h2] at h'; cases h'
          · have := hinj p d (by omega) hdC (by rw [h', hd]); omega
      subst hdp
      subst hd
      obtain ⟨hdn, hgu, hcall⟩ := hcut d o hdC hoi
      have hσ : Rel ρ F ⟨st.n, (dViewL st os vs [] o).t ++ (dSt ⟨st.n, st.t, H d⟩ os vs S).t, H d⟩ a w := by
        refine hI.subset rfl ?_ (by intro p hp'; simp only [dSt, List.mem_append] at hp' ⊢; exact .inr hp')
        intro p hp'
        rcases List.mem_append.1 hp' with hp' | hp'
        · simp only [dViewL, dSt, List.mem_append, List.not_mem_nil, false_or] at hp' ⊢
          rcases hp' with h | h
          · obtain ⟨j, o', v', h1, h2, h3, h4, h5⟩ := mem_partT.1 h
            refine .inl (mem_partT.2 ⟨j, o', v', h1, h2, ?_, h4, h5⟩)
            rw [Nat.zero_add] at h3 ⊢
            exact hp j (by simpa using h3)
          · have := base p h
            exact .inr (mem_dropTs' this.1 this.2)
        · exact hp'
      have hkill : ∀ p ∈ (dSt ⟨st.n, st.t, H d⟩ os vs S).t, ∀ l ∈ Ls, kill l p.2 = p.2 := by
        intro p hp' l hl
        simp only [dSt, List.mem_append] at hp'
        rcases hp' with h | h
        · obtain ⟨j, o', v', h1, h2, h3, h4, h5⟩ := mem_partT.1 h
          rw [← h5]; exact hkv l hl v' (List.mem_of_getElem? h2)
        · exact hkt l hl p (mem_dropTs h).1
      have hA := hcall (dSt ⟨st.n, st.t, H d⟩ os vs S).t (fun s => s = (({ (St.drops ⟨st.n, (dViewL st os vs [] o).t ++ (dSt ⟨st.n, st.t, H d⟩ os vs S).t, H d⟩ Ls) with h := H (d + 1) } : St).put o.dst (val d))) rfl
      refine wpOp_of ((AOps.lone ho hgu hA) ρ F a w _ hσ ?_)
      rintro st' ρ' F' a' w' rfl hR' hF
      refine hN ρ' F' a' w' ⟨d + 1, hdC, ?_, ?_, ?_⟩ hF
      · intro d' hd'
        simp only [upd, Bool.or_eq_true, beq_iff_eq]
        rcases Nat.lt_or_ge d' d with h | h
        · exact .inl (hp1 d' h)
        · exact .inr (by rw [show d' = d by omega])
      · intro d' h1 h2
        simp only [upd, Bool.or_eq_false_iff, beq_eq_false_iff_ne, ne_eq]
        exact ⟨hp2 d' (by omega) h2, fun e => by have := hinj d' d h2 hdC e; omega⟩
      have old : ∀ p, p ∈ (dSt ⟨st.n, st.t, H d⟩ os vs S).t → (∀ e, o.dst = some e → p.1 ≠ e) → p ∈ (({ (St.drops ⟨st.n, (dViewL st os vs [] o).t ++ (dSt ⟨st.n, st.t, H d⟩ os vs S).t, H d⟩ Ls) with h := H (d + 1) } : St).put o.dst (val d)).t := by
        intro p hp' h2
        have h1 : p ∈ (St.drops ⟨st.n, (dViewL st os vs [] o).t ++ (dSt ⟨st.n, st.t, H d⟩ os vs S).t, H d⟩ Ls).t := drops_t_mem (t := p.1) (v := p.2) Ls (fun l hl => hkill p hp' l hl) (List.mem_append.2 (.inr hp'))
        cases hd : o.dst with
        | none => exact h1
        | some e => exact mem_ins_other (h2 e hd) h1
      refine hR'.subset ?_ ?_ ?_
      · cases o.dst <;> simp only [St.put, dSt, drops_n]
      · intro p hp'
        simp only [dSt, List.mem_append] at hp'
        rcases hp' with h | h
        · obtain ⟨j, o', v', h1, h2, h3, h4, h5⟩ := mem_partT.1 h
          simp only [Nat.zero_add, upd, Bool.or_eq_true, beq_iff_eq] at h3
          by_cases hj : j = cut d
          · subst hj
            rw [hv d hdC] at h2; cases h2
            rw [hoi] at h1; cases h1
            obtain ⟨p1, p2⟩ := p
            simp only at h4 h5
            subst h5
            rw [h4]
            exact mem_ins_self _ _ _
          · have hSj : S j = true := h3.resolve_right hj
            refine old p (List.mem_append.2 (.inl (mem_partT.2 ⟨j, o', v', h1, h2, by rw [Nat.zero_add]; exact hSj, h4, h5⟩))) ?_
            intro e he e'
            rw [e'] at h4
            exact hj (dsts_inj hnd h1 hoi h4 he)
        · have h' := mem_dropTs h
          refine old p (List.mem_append.2 (.inr (mem_dropTs' h'.1 fun hm => h'.2 ?_))) ?_
          · obtain ⟨j, o', h1, h2, h3⟩ := mem_dstsS.1 hm
            exact mem_dstsS.2 ⟨j, o', h1, by simp only [upd]; rw [h2]; rfl, h3⟩
          · intro e he e'
            exact h'.2 (mem_dstsS.2 ⟨cut d, o, hoi, by simp [upd], by rw [e']; exact he⟩)
      · intro p hp'
        simp only [dSt, List.mem_append] at hp'
        have hp' := hp'.resolve_left (noH p)
        cases o.dst <;> exact hp'
    · have hic : ∀ q, q < C → i ≠ cut q := fun q hq e => hcutE ⟨q, hq, e.symm⟩
      obtain ⟨v, hvi⟩ : ∃ v, vs[i]? = some v := ⟨_, List.getElem?_eq_getElem (by rw [hvl]; exact him)⟩
      refine draw_step3 (st := ⟨st.n, st.t, H p⟩) (vs := vs) (stv := ⟨st.n, st.t, Hc⟩) (vsv := vs) hnd hno ho hoi hvi hSi hp hcl1 rfl ?_ (f i o v hic hoi hvi) (mkInv hI) ?_
      · intro L hL
        refine hI.subset rfl ?_ ?_
        · intro q hq
          simp only [dViewL, dSt, List.mem_append] at hq ⊢
          rcases hq with h | h | h
          · obtain ⟨j, o', v', h1, h2, h3, h4, h5⟩ := mem_partT.1 h
            refine .inl (mem_partT.2 ⟨j, o', v', h1, h2, ?_, h4, h5⟩)
            rw [Nat.zero_add] at h3 ⊢
            exact hp j (by simpa using h3)
          · refine .inr (mem_dropTs' (hL q h).1 fun hm => ?_)
            obtain ⟨j, o', h1, h2, h3⟩ := mem_dstsS.1 hm
            rw [Nat.zero_add] at h2
            have := hcl1 j o' h1 h2 i ((hL q h).2 j o' h1 h3)
            rw [hSi] at this; cases this
          · have := base q h
            exact .inr (mem_dropTs' this.1 this.2)
        · intro q hq
          simp only [dSt, List.mem_append]
          exact .inr (hHc p hpC q hq)
      · intro ρ' F' a' w' hI' hFr
        refine hN ρ' F' a' w' ⟨p, hpC, ?_, ?_, hI'.rel⟩ hFr
        · intro d hd
          simp only [upd, hp1 d hd, Bool.true_or]
        · intro d h1 h2
          simp only [upd, Bool.or_eq_false_iff, beq_eq_false_iff_ne, ne_eq]
          exact ⟨hp2 d h1 h2, fun e => hic d h2 e.symm⟩
  · rintro S ρ F a w hS ⟨p, hpC, hp1, hp2, hI⟩
    have hpe : p = C := by
      rcases Nat.lt_or_ge p C with h | h
      · have := hp2 p (Nat.le_refl _) h
        rw [hS] at this
        simp only [decide_eq_false_iff_not] at this
        exact absurd (hcm p h) this
      · omega
    subst hpe
    refine hI.subset rfl ?_ ?_
    · intro q hq
      simp only [dSt, List.mem_append] at hq ⊢
      rcases hq with hq | hq
      · obtain ⟨i, o, v, h1, h2, _, h4, h5⟩ := mem_partT.1 hq
        refine .inl (mem_partT.2 ⟨i, o, v, h1, h2, ?_, h4, h5⟩)
        have := (List.getElem?_eq_some_iff.1 h2).1
        rw [hS]; simp; omega
      · have hp' := mem_dropTs hq
        refine .inr (mem_dropTs' hp'.1 fun hm => hp'.2 ?_)
        obtain ⟨j, o', h1, h2, h3⟩ := mem_dstsS.1 hm
        exact mem_dstsS.2 ⟨j, o', h1, rfl, h3⟩
    · intro q hq
      simp only [dSt, List.mem_append] at hq ⊢
      exact .inr (hq.resolve_left (noH q))
  · have : ∀ n, unl (List.replicate n false) = n := by
      intro n; induction n with
      | zero => rfl
      | succ n ih => simp [List.replicate_succ, unl, ih, Nat.add_comm]
    simp [this]
  · intro i o ho hi
    simp [ls, Array.getD_eq_getD_getElem?, Array.getElem?_replicate] at hi
    split at hi <;> simp at hi
  · intro i hi
    simp [ls, Array.getD_eq_getD_getElem?, Array.getElem?_replicate] at hi
    split at hi <;> simp at hi
  · have hf : ls (Array.replicate ops.size false) = fun _ => false := by
      funext i
      simp only [ls, Array.getD_eq_getD_getElem?, Array.getElem?_replicate]
      split <;> rfl
    rw [hf]
    refine ⟨0, Nat.zero_le _, fun d h => absurd h (Nat.not_lt_zero _), fun _ _ _ => rfl, hw1.subset rfl ?_ ?_⟩
    · intro p hp
      simp only [dSt, List.mem_append] at hp
      rcases hp with hp | hp
      · obtain ⟨i, o, v, _, _, h3, _⟩ := mem_partT.1 hp; cases h3
      · exact (mem_dropTs hp).1
    · intro p hp
      simp only [dSt, List.mem_append] at hp
      rcases hp with hp | hp
      · exact absurd hp (noH p)
      · rw [hH0] at hp; exact hp
end Go.Proofs.YtngphcdhdllnnaaGreat.E

namespace Go.Proofs.YtngphcdhdllnnaaGreat.E
set_option linter.unusedVariables false
set_option linter.unusedSimpArgs false
/-! ## The same, step by step -/
abbrev Cut := Nat × AV × List (Nat × Blk) × List (Nat × Blk)
theorem CutF.app {P : Program} {st : St} {os : List Oper} {vs r : List (AV × Option Blk)} {o : Oper} {v : AV} {h h' : List (Nat × Blk)} {Ls : List Nat} (hp : ∀ j ∈ dpreds o, j < vs.length) (hf : CutF P st os vs o v h h' Ls) : CutF P st os (vs ++ r) o v h h' Ls := by
  have hview : dViewL st os (vs ++ r) [] o = dViewL st os vs [] o := by
    simp only [dViewL]
    rw [partT_app]
    intro j hj
    simp only [List.contains_eq_mem, decide_eq_false_iff_not]
    intro hm
    have := hp j hm
    omega
  unfold CutF at hf ⊢
  rw [hview]
  exact hf
def ADM (G : Prop) (P : Program) (ops : Array Oper) (m : Nat) (st : St) (Hc : List (Nat × Blk)) (Ls : List Nat) (pre : List Oper) (base : List (Nat × AV)) (os : List Oper) (vs : List (AV × Option Blk)) (hcur : List (Nat × Blk)) (cuts : List Cut) : Prop :=
  drawOk ops m = true → pre = ops.toList.take m → base = dropTs (dsts pre) st.t → pre.drop vs.length = os →
    (∀ (i : Nat) (o : Oper) (v : AV × Option Blk), pre[i]? = some o → vs[i]? = some v → (∀ c ∈ cuts, i ≠ c.1) → DFact P ⟨st.n, st.t, Hc⟩ ops pre vs i o v) →
    (∀ v ∈ vs, v.2 = none) →
    (∀ c ∈ cuts, vs[c.1]? = some (c.2.1, none) ∧ ∀ o, pre[c.1]? = some o → CutF P st pre vs o c.2.1 c.2.2.1 c.2.2.2 Ls) → G
theorem ADM.snoc {G : Prop} {P : Program} {ops : Array Oper} {m : Nat} {st : St} {Hc : List (Nat × Blk)} {Ls : List Nat} {pre : List Oper} {base : List (Nat × AV)} {o : Oper} {os : List Oper} {vs : List (AV × Option Blk)} {v : AV} {hcur hnew : List (Nat × Blk)} {cuts new : List Cut}
    (hf : drawOk ops m = true → pre = ops.toList.take m → base = dropTs (dsts pre) st.t → (new = [] ∧ DFact P ⟨st.n, st.t, Hc⟩ ops pre vs vs.length o (v, none)) ∨ (new = [(vs.length, v, hcur, hnew)] ∧ CutF P st pre vs o v hcur hnew Ls))
    (h : ADM G P ops m st Hc Ls pre base os (vs ++ [(v, none)]) hnew (cuts ++ new)) : ADM G P ops m st Hc Ls pre base (o :: os) vs hcur cuts := by
  intro hok hpre hbase hos hfs hns hcs
  have ho : pre[vs.length]? = some o := by
    have := congrArg (·[0]?) hos
    simpa using this
  have hf := hf hok hpre hbase
  have he : edgesOk 0 ops.toList = true := by
    simp only [drawOk, Bool.and_eq_true] at hok; exact hok.1
  have hpd : ∀ (i : Nat) (o' : Oper), pre[i]? = some o' → i ≤ vs.length → ∀ j ∈ dpreds o', j < vs.length := by
    intro i o' ho' hi j hj
    have h1 : ops.toList[i]? = some o' := by
      rw [hpre, List.getElem?_take] at ho'
      split at ho'
      · exact ho'
      · cases ho'
    have := edgesOk_lt he i o' h1 j hj
    omega
  refine h hok hpre hbase (by rw [List.length_append, List.length_singleton, ← List.drop_drop, hos]; rfl) ?_ ?_ ?_
  · intro i o' v' ho' hv' hnc
    have hi : i ≤ vs.length := by
      have := (List.getElem?_eq_some_iff.1 hv').1
      simp at this; omega
    by_cases hlt : i < vs.length
    · rw [List.getElem?_append_left hlt] at hv'
      exact (hfs i o' v' ho' hv' fun c hc => hnc c (List.mem_append_left _ hc)).app (hpd i o' ho' hi)
    · have hie : i = vs.length := by omega
      subst hie
      rw [List.getElem?_append_right (Nat.le_refl _)] at hv'
      simp at hv'
      subst hv'
      rw [ho] at ho'
      cases ho'
      rcases hf with ⟨_, hf⟩ | ⟨e, _⟩
      · exact hf.app (hpd _ _ ho (Nat.le_refl _))
      · exact absurd rfl (hnc (vs.length, v, hcur, hnew) (by rw [e]; simp))
  · intro v' hv'
    rcases List.mem_append.1 hv' with hv' | hv'
    · exact hns v' hv'
    · simp only [List.mem_singleton] at hv'; subst hv'; rfl
  · intro c hc
    rcases List.mem_append.1 hc with hc | hc
    · obtain ⟨h1, h2⟩ := hcs c hc
      have hlt := (List.getElem?_eq_some_iff.1 h1).1
      exact ⟨by rw [List.getElem?_append_left hlt]; exact h1, fun o' ho' => (h2 o' ho').app (hpd _ _ ho' (Nat.le_of_lt hlt))⟩
    · rcases hf with ⟨e, _⟩ | ⟨e, hf⟩
      · rw [e] at hc; cases hc
      · rw [e] at hc
        simp only [List.mem_singleton] at hc
        subst hc
        refine ⟨by simp, fun o' ho' => ?_⟩
        have ho' : pre[vs.length]? = some o' := ho'
        rw [ho] at ho'
        cases ho'
        exact hf.app (hpd _ _ ho (Nat.le_refl _))
theorem ADM.cut {G : Prop} {P : Program} {ops : Array Oper} {m : Nat} {st : St} {Hc : List (Nat × Blk)} {Ls : List Nat} {pre : List Oper} {base : List (Nat × AV)} {o : Oper} {os : List Oper} {vs vs' : List (AV × Option Blk)} {v : AV} {hcur hnew : List (Nat × Blk)} {cuts cuts' : List Cut}
    (hc : ∀ vw : St, vw = dVw st pre base vs o → CutF P st pre vs o v hcur hnew Ls ∨ (dOk st.n o.dst = true ∧ o.guard = none ∧ ∀ (T : List (Nat × AV)) (K' : St → Prop), K' (({ (St.drops ⟨st.n, vw.t ++ T, hcur⟩ Ls) with h := hnew } : St).put o.dst v) → AOL P #[o] [o] K' ⟨st.n, vw.t ++ T, hcur⟩))
    (hvs : vs ++ [(v, none)] = vs' := by simp only [List.cons_append, List.nil_append]; exact rfl) (hcs : cuts ++ [(vs.length, v, hcur, hnew)] = cuts' := by simp only [List.cons_append, List.nil_append, List.length_cons, List.length_nil, Nat.zero_add, Nat.reduceAdd]; exact rfl)
    (h : ADM G P ops m st Hc Ls pre base os vs' hnew cuts') : ADM G P ops m st Hc Ls pre base (o :: os) vs hcur cuts := by
  subst hvs hcs
  refine ADM.snoc (hnew := hnew) (new := [(vs.length, v, hcur, hnew)]) (fun hok hpre hbase => .inr ⟨rfl, ?_⟩) h
  rcases hc _ rfl with hc | ⟨h1, h2, h3⟩
  · exact hc
  · rw [dVw_L hbase] at h3
    exact ⟨h1, h2, h3⟩
theorem ADM.dm {G : Prop} {P : Program} {ops : Array Oper} {m : Nat} {st : St} {Hc : List (Nat × Blk)} {Ls : List Nat} {pre : List Oper} {base : List (Nat × AV)} {o : Oper} {os : List Oper} {vs vs' : List (AV × Option Blk)} {v : AV × Option Blk} {hcur : List (Nat × Blk)} {cuts : List Cut}
    (hr : dStepL P st.n ops.toList [] (dVw ⟨st.n, st.t, Hc⟩ pre base vs o) o = some v := by
      simp only [dRunK, dStepL, dVw, pickT, predsL, inL, dEval, lOk, runK, stepL, memOp, pureOp, gOkL, dstAt, dOk, St.eval, St.evalO, get?, St.put, ins, del, AV.ofV, aBinAll, aBin, aBinI, aBinA, csEq, cEq, rI, isC, aUn, aConv, aStr, nums_by8, aIface, aNil, aCallB, aLen, aMinMax, intOf?, bnd, Go.Proofs.YtngphcdhdllnnaaGreat.E.ld, Go.Proofs.YtngphcdhdllnnaaGreat.E.part, Go.Proofs.YtngphcdhdllnnaaGreat.E.takeAgg_tk, Go.Proofs.YtngphcdhdllnnaaGreat.E.tk, aFieldAddr, aIndexAddr, aField, aIndex, aBuildSlice, cBuild, aAlloc, aStore, aApp, srcCells, aFill, mapM?, St.parts, St.new, St.drop, mapT, mapH, kill, kills, AV.cells, AV.fits, AV.one, AV.free, frees, splice, cyc, lab, Value.oneCell', Value.cells, Option.bind_some, Option.map_some, Option.bind_none, Option.map_none, decide_true, decide_false, if_true, if_false, reduceIte, reduceCtorEq, Bool.false_eq_true, Nat.reduceLT, Nat.reduceEqDiff, Nat.reduceAdd, Nat.reduceMul, Nat.reduceLeDiff, Nat.reduceSub, Nat.zero_add, Nat.add_zero, Nat.zero_mul, Nat.one_mul, Nat.mul_one, Int.toNat_natCast, Int.toNat_zero, List.drop_succ_cons, List.drop_zero, List.take_succ_cons, List.take_zero, List.length_cons, List.length_nil, List.head?_cons, List.map_cons, List.map_nil, List.all_cons, List.all_nil, List.cons_append, List.nil_append, List.append_nil, List.set_cons_zero, List.set_cons_succ, List.getElem?_cons_zero, List.getElem?_cons_succ, Bool.not_true, Bool.not_false, beq_true, beq_false, Bool.true_beq, Bool.false_beq, Bool.and_self, Bool.and_true, Bool.true_and, and_self, and_true, true_and, false_implies, true_implies, implies_true, bne_self_eq_false, beq_self_eq_true, Option.isSome_some, List.all, *]
      exact rfl)
    (h2 : v.2 = none := by exact rfl) (hvs : vs ++ [v] = vs' := by simp only [List.cons_append, List.nil_append]; exact rfl)
    (h : ADM G P ops m st Hc Ls pre base os vs' hcur cuts) : ADM G P ops m st Hc Ls pre base (o :: os) vs hcur cuts := by
  subst hvs
  obtain ⟨v1, v2⟩ := v
  simp only at h2
  subst h2
  refine ADM.snoc (hnew := hcur) (new := []) (fun hok hpre hbase => .inl ⟨rfl, ?_⟩) (by rw [List.append_nil]; exact h)
  rw [dVw_L (stv := ⟨st.n, st.t, Hc⟩) hbase] at hr
  unfold dStepL at hr
  rw [gOkL_eq] at hr
  split at hr
  · rename_i hd hg
    cases hr
    exact ⟨hd, [], LateOk.nil _ _ _, .inl ⟨hg, rfl⟩⟩
  · rename_i hd hg
    simp only [Option.bind_eq_some_iff] at hr
    obtain ⟨v', hv, hr⟩ := hr
    split at hr
    · cases hr
      exact ⟨hd, [], LateOk.nil _ _ _, .inr ⟨hg, .inl hv⟩⟩
    · cases hr
  · cases hr
def chainP (h0 : List (Nat × Blk)) : List Cut → Prop
  | [] => True
  | c :: r => c.2.2.1 = h0 ∧ chainP c.2.2.2 r
def lastH (h0 : List (Nat × Blk)) : List Cut → List (Nat × Blk)
  | [] => h0
  | c :: r => lastH c.2.2.2 r
def chainOk (ops : Array Oper) (m : Nat) : List Cut → Bool
  | [] => true
  | [c] => decide (c.1 < m)
  | c :: d :: r => decide (c.1 < d.1) && ((masks ops.toList []).getD d.1 0).testBit c.1 && decide (c.1 < m) && chainOk ops m (d :: r)
def heapAt (h0 : List (Nat × Blk)) : List Cut → Nat → List (Nat × Blk)
  | _, 0 => h0
  | [], _ + 1 => h0
  | c :: r, q + 1 => heapAt c.2.2.2 r q
theorem chainP.at : ∀ {cuts : List Cut} {h0 : List (Nat × Blk)} {q : Nat} {c : Cut}, chainP h0 cuts → cuts[q]? = some c → c.2.2.1 = heapAt h0 cuts q ∧ c.2.2.2 = heapAt h0 cuts (q + 1)
  | [], _, _, _, _, h => by simp at h
  | d :: r, h0, 0, c, hc, h => by
    simp only [List.getElem?_cons_zero, Option.some.injEq] at h
    subst h
    exact ⟨hc.1, by cases r <;> rfl⟩
  | d :: r, h0, q + 1, c, hc, h => by
    simp only [List.getElem?_cons_succ] at h
    have := chainP.at (cuts := r) (h0 := d.2.2.2) hc.2 h
    exact this
theorem heapAt_last : ∀ {cuts : List Cut} {h0 : List (Nat × Blk)}, heapAt h0 cuts cuts.length = lastH h0 cuts
  | [], _ => rfl
  | c :: r, _ => by simp only [List.length_cons, heapAt, lastH]; exact heapAt_last
theorem heapAt_mem {Hc : List (Nat × Blk)} : ∀ {cuts : List Cut} {h0 : List (Nat × Blk)}, (∀ p ∈ Hc, p ∈ h0) → (∀ c ∈ cuts, ∀ p ∈ Hc, p ∈ c.2.2.2) → ∀ q, ∀ p ∈ Hc, p ∈ heapAt h0 cuts q
  | _, _, h, _, 0 => by intro p hp; cases ‹List Cut› <;> exact h p hp
  | [], _, h, _, _ + 1 => h
  | c :: r, _, _, hc, q + 1 => heapAt_mem (cuts := r) (hc c (by simp)) (fun d hd => hc d (List.mem_cons_of_mem _ hd)) q
theorem anc1 {ops : Array Oper} {i j : Nat} (h : ((masks ops.toList []).getD i 0).testBit j = true) {S : Nat → Bool} (hc : Closed ops S) {o : Oper} (ho : ops[i]? = some o) (hS : S i = true) : S j = true :=
  masks_bits ops.toList (fun i => S i = true) (fun i o ho hi j hj => hc i o (by rw [← Array.getElem?_toList]; exact ho) hi j hj) ops.toList [] [] (by simp) rfl (by simp) i o (by rw [Array.getElem?_toList]; exact ho) (hc i o ho hS) j h
theorem chainOk.at {ops : Array Oper} {m : Nat} (hm : m ≤ ops.size) : ∀ {cuts : List Cut}, chainOk ops m cuts = true → (∀ (q : Nat) (c : Cut), cuts[q]? = some c → c.1 < m) ∧
    (∀ (q k : Nat) (c d : Cut), cuts[q]? = some c → cuts[q + k + 1]? = some d → c.1 < d.1 ∧ ∀ S : Nat → Bool, Closed ops S → S d.1 = true → S c.1 = true)
  | [], _ => ⟨fun q c h => by simp at h, fun q k c d h => by simp at h⟩
  | [c], h => by
    simp only [chainOk, decide_eq_true_eq] at h
    refine ⟨fun q d hd => ?_, fun q k d e hd he => ?_⟩
    · cases q with
      | zero => simp at hd; subst hd; exact h
      | succ q => simp at hd
    · simp at he
  | c :: d :: r, h => by
    simp only [chainOk, Bool.and_eq_true, decide_eq_true_eq] at h
    obtain ⟨⟨⟨h1, h2⟩, h3⟩, h4⟩ := h
    obtain ⟨i1, i2⟩ := chainOk.at hm (cuts := d :: r) h4
    have hd := i1 0 d rfl
    have step : ∀ S : Nat → Bool, Closed ops S → S d.1 = true → S c.1 = true := fun S hS hd' => anc1 h2 hS (Array.getElem?_eq_getElem (show d.1 < ops.size by omega)) hd'
    refine ⟨fun q e he => ?_, fun q k e f he hf => ?_⟩
    · cases q with
      | zero => simp at he; subst he; exact h3
      | succ q => exact i1 q e (by simpa using he)
    · cases q with
      | zero =>
        simp at he; subst he
        cases k with
        | zero => simp at hf; subst hf; exact ⟨h1, step⟩
        | succ k =>
          have hf' : (d :: r)[0 + k + 1]? = some f := by
            rw [show 0 + (k + 1) + 1 = (k + 1) + 1 by omega, List.getElem?_cons_succ] at hf
            rw [show 0 + k + 1 = k + 1 by omega]; exact hf
          obtain ⟨j1, j2⟩ := i2 0 k d f rfl hf'
          exact ⟨by omega, fun S hS hh => step S hS (j2 S hS hh)⟩
      | succ q =>
        refine i2 q k e f (by simpa using he) ?_
        rw [show q + 1 + k + 1 = (q + k + 1) + 1 by omega] at hf
        simpa using hf
theorem ADM.done {P : Program} {id : Nat} {ops : Array Oper} {K : Exit → St → Prop} {m n : Nat} {st : St} {Hc hcur : List (Nat × Blk)} {Ls : List Nat} {pre : List Oper} {base t : List (Nat × AV)} {vs : List (AV × Option Blk)} {cuts : List Cut} (hmix : P.follows .mixedOrders = true) (hch : chainOk ops m cuts = true) (hlen : vs.length = m)
    (hcp : chainP st.h cuts) (hla : lastH st.h cuts = hcur) (hHc : (∀ p ∈ Hc, p ∈ st.h) ∧ ∀ c ∈ cuts, ∀ p ∈ Hc, p ∈ c.2.2.2) (hkt : ∀ l ∈ Ls, mapT (kill l) st.t = st.t) (hkv : ∀ l ∈ Ls, vs.map (fun v => kill l v.1) = vs.map (·.1))
    (hn : st.n = n := by exact rfl) (ht : insAll base pre vs = t := by simp only [insAll, ins, del, reduceIte, Nat.reduceLT, Nat.reduceEqDiff]; exact rfl)
    {os' : List Oper} (hos' : dropL m ops.toList = os' := by simp only [dropL]; exact rfl) (hT : AOL P ops os' (K .normal) ⟨n, t, hcur⟩) : ADM (AW P (.region id ops true) K st) P ops m st Hc Ls pre base [] vs hcur cuts := by
  intro hok hpre hbase hos hfs hns hcs
  simp only [drawOk, Bool.and_eq_true, decide_eq_true_eq] at hok
  obtain ⟨h1, h2, h3, h4⟩ := hok
  subst hpre
  obtain ⟨c1, c2⟩ := chainOk.at h4 hch
  have hget : ∀ q, q < cuts.length → cuts[q]? = some (cuts.getD q (0, .dead, [], [])) := by
    intro q hq
    rw [List.getD_eq_getElem?_getD, List.getElem?_eq_getElem hq]; rfl
  have kt : ∀ l ∈ Ls, ∀ p ∈ st.t, kill l p.2 = p.2 := by
    intro l hl p hp
    have key : ∀ {L : List (Nat × AV)}, mapT (kill l) L = L → ∀ p ∈ L, kill l p.2 = p.2 := by
      intro L
      induction L with
      | nil => intro _ p hp; cases hp
      | cons a r ih =>
        intro h p hp
        obtain ⟨a1, a2⟩ := a
        simp only [mapT, List.cons.injEq, Prod.mk.injEq, true_and] at h
        rcases List.mem_cons.1 hp with rfl | hp
        · exact h.1
        · exact ih h.2 p hp
    exact key (hkt l hl) p hp
  refine AW.drawM (C := cuts.length) (cut := fun q => (cuts.getD q (0, .dead, [], [])).1) (H := heapAt st.h cuts) (Hc := Hc) (Ls := Ls) (vs := vs) (val := fun q => (cuts.getD q (0, .dead, [], [])).2.1) hmix h4 h2 (nodupB_iff h3) (fun q hq => c1 q _ (hget q hq)) ?_ ?_ (by cases cuts <;> rfl) (fun q _ => heapAt_mem hHc.1 hHc.2 q) hlen hns ?_ kt (fun l hl => mem_of_map (hkv l hl)) ?_ ?_ ?_
  · intro q q' hq hq' e
    rcases Nat.lt_trichotomy q q' with h | h | h
    · obtain ⟨k, rfl⟩ : ∃ k, q' = q + k + 1 := ⟨q' - q - 1, by omega⟩
      have := (c2 q k _ _ (hget q hq) (hget _ hq')).1
      have e : (cuts.getD q (0, .dead, [], [])).1 = (cuts.getD (q + k + 1) (0, .dead, [], [])).1 := e
      omega
    · exact h
    · obtain ⟨k, rfl⟩ : ∃ k, q = q' + k + 1 := ⟨q - q' - 1, by omega⟩
      have := (c2 q' k _ _ (hget q' hq') (hget _ hq)).1
      have e : (cuts.getD (q' + k + 1) (0, .dead, [], [])).1 = (cuts.getD q' (0, .dead, [], [])).1 := e
      omega
  · intro q q' h hq' S hS hh
    obtain ⟨k, rfl⟩ : ∃ k, q' = q + k + 1 := ⟨q' - q - 1, by omega⟩
    exact (c2 q k _ _ (hget q (by omega)) (hget _ hq')).2 S hS hh
  · intro q hq
    exact (hcs _ (List.mem_of_getElem? (hget q hq))).1
  · intro q o hq ho
    have := (hcs _ (List.mem_of_getElem? (hget q hq))).2 o ho
    obtain ⟨e1, e2⟩ := chainP.at (h0 := st.h) hcp (hget q hq)
    rw [e1, e2] at this
    exact this
  · intro i o v hi ho hv
    refine hfs i o v ho hv fun c hc => ?_
    obtain ⟨q, hq, rfl⟩ := List.mem_iff_getElem.1 hc
    have := hi q hq
    rw [List.getD_eq_getElem?_getD, List.getElem?_eq_getElem hq] at this
    exact this
  · have hfin := ADP.fin (P := P) (id := id) (K := K) (m := m) (n := n) (st := st) (stC := ⟨st.n, st.t, hcur⟩) (bl := []) (hh := hcur) (os' := os') hbase ht (fun p hp => hp) hn hos' hT
    rw [heapAt_last, hla]
    simpa only [List.nil_append] using hfin
theorem AW.dM {P : Program} {id : Nat} {ops : Array Oper} {K : Exit → St → Prop} {st : St} {base : List (Nat × AV)} {pre : List Oper} {hcur : List (Nat × Blk)} (m : Nat) (Hc : List (Nat × Blk)) (Ls : List Nat) (hok : drawOk ops m = true)
    (hh : st.h = hcur := by exact rfl)
    (hp : takeL m ops.toList = pre := by simp only [takeL]; exact rfl)
    (hb : dropTL (dsts pre) st.t = base := by simp only [dsts, dropTL, inL, List.cons_append, List.nil_append, List.append_nil, reduceIte, Nat.reduceEqDiff]; exact rfl)
    (h : ADM (AW P (.region id ops true) K st) P ops m st Hc Ls pre base pre [] hcur []) : AW P (.region id ops true) K st := by
  rw [takeL_eq] at hp
  rw [dropTL_eq] at hb
  subst hp
  exact h hok rfl hb.symm rfl (by intro i o v _ hv; simp at hv) (by simp) (by simp)
/-- a call's operands, in a view that stands in front -/
theorem eval_fr {n : Nat} {t T : List (Nat × AV)} {h h' : List (Nat × Blk)} {x : Operand} {v : AV} (e : (⟨n, t, h⟩ : St).eval x = some v) : (⟨n, t ++ T, h'⟩ : St).eval x = some v := eval_front e
theorem mapM_fr {n : Nat} {t T : List (Nat × AV)} {h h' : List (Nat × Blk)} : ∀ {xs : List Operand} {«as» : List AV}, mapM? (⟨n, t, h⟩ : St).eval xs = some «as» → mapM? (⟨n, t ++ T, h'⟩ : St).eval xs = some «as»
  | [], «as», e => e
  | x :: xs, «as», e => by
    simp only [mapM?, Option.bind_eq_some_iff, Option.map_eq_some_iff] at e ⊢
    obtain ⟨v, hv, as', has, rfl⟩ := e
    exact ⟨v, eval_fr hv, as', mapM_fr has, rfl⟩
theorem callL_front {n : Nat} {t T : List (Nat × AV)} {h h' : List (Nat × Blk)} {o : Oper} {g : FuncId} {«as» : List AV} {ops : List Oper} (hd : dOk n o.dst = true) (hg : o.guard = none) (e : callOf ⟨n, t, h⟩ o = some (g, «as»)) : callL ⟨n, t ++ T, h'⟩ ops o = some (g, «as») := by
  have hg' : gOkL ops ⟨n, t ++ T, h'⟩ o.guard = some true := by rw [hg]; rfl
  unfold callL
  simp only [hd, hg']
  unfold callOf at e ⊢
  split at e
  · rename_i f args ts hop
    simp only [Option.bind_eq_some_iff] at e ⊢
    obtain ⟨v, hv, e⟩ := e
    refine ⟨v, eval_fr hv, ?_⟩
    split at e
    · simp only [Option.map_eq_some_iff] at e ⊢
      obtain ⟨as', has, e⟩ := e
      exact ⟨as', mapM_fr has, e⟩
    · cases e
  · cases e
theorem drops_heap : ∀ (Ls : List Nat) {n n' : Nat} {t t' : List (Nat × AV)} {h : List (Nat × Blk)}, (St.drops ⟨n, t, h⟩ Ls).h = (St.drops ⟨n', t', h⟩ Ls).h
  | [], _, _, _, _, _ => rfl
  | l :: r, n, n', t, t', h => drops_heap r (n := n) (n' := n') (t := mapT (kill l) t) (t' := mapT (kill l) t') (h := mapH l (del l h))
end Go.Proofs.YtngphcdhdllnnaaGreat.E
end
section
/- Sums of terms: what they are. -/
set_option linter.unusedVariables false
set_option linter.unusedSimpArgs false
set_option maxRecDepth 10000
open Go Go.Proofs.YtngphcdhdllnnaaGreat.E Go.Proofs
namespace Go.Proofs.YtngphcdhdllnnaaGreat.E.M
def kS (v : Int) : List Tm → Int
  | [] => 0
  | t :: l => (if t.v = v then t.k else 0) + kS v l
theorem kS_app (v : Int) : ∀ a b : List Tm, kS v (a ++ b) = kS v a + kS v b
  | [], b => by simp [kS]
  | t :: a, b => by simp only [List.cons_append, kS, kS_app v a b]; omega
theorem kS_perm {v : Int} {a b : List Tm} (h : a.Perm b) : kS v a = kS v b := by
  induction h with
  | nil => rfl
  | cons t _ ih => simp only [kS, ih]
  | swap s t l => simp only [kS]; omega
  | trans _ _ h1 h2 => exact h1.trans h2
theorem kS_zero {v : Int} : ∀ {l : List Tm}, (∀ t ∈ l, t.v ≠ v) → kS v l = 0
  | [], _ => rfl
  | t :: l, h => by
    simp only [kS]
    rw [if_neg (h t (by simp)), kS_zero fun s hs => h s (List.mem_cons_of_mem _ hs)]; rfl
/-- what the sum of terms is: its variables rise, none counts 0, each counts what all of it do -/
structure IsSum (L out : List Tm) : Prop where
  up : out.Pairwise (fun a b => a.v < b.v)
  pos : ∀ t ∈ out, 0 ≤ t.v ∧ 1 ≤ t.k ∧ t.k < 288230376287764481
  eq : ∀ v, 0 ≤ v → kS v out = kS v L % 288230376287764481
theorem sum_uniq : ∀ {a b : List Tm}, a.Pairwise (fun a b => a.v < b.v) → b.Pairwise (fun a b => a.v < b.v) → (∀ t ∈ a, 0 ≤ t.v ∧ 1 ≤ t.k) → (∀ t ∈ b, 0 ≤ t.v ∧ 1 ≤ t.k) → (∀ v, 0 ≤ v → kS v a = kS v b) → a = b
  | [], [], _, _, _, _, _ => rfl
  | [], t :: b, _, hb, _, pb, h => by
    have h1 := h t.v (pb t (by simp)).1
    simp only [kS, if_true] at h1
    rw [kS_zero (fun s hs => by have := (List.pairwise_cons.1 hb).1 s hs; omega)] at h1
    have := (pb t (by simp)).2; omega
  | t :: a, [], ha, _, pa, _, h => by
    have h1 := h t.v (pa t (by simp)).1
    simp only [kS, if_true] at h1
    rw [kS_zero (fun s hs => by have := (List.pairwise_cons.1 ha).1 s hs; omega)] at h1
    have := (pa t (by simp)).2; omega
  | t :: a, s :: b, ha, hb, pa, pb, h => by
    obtain ⟨ha1, ha2⟩ := List.pairwise_cons.1 ha
    obtain ⟨hb1, hb2⟩ := List.pairwise_cons.1 hb
    have t0 := pa t (by simp)
    have s0 := pb s (by simp)
    have za : ∀ v, v ≤ t.v → kS v a = 0 := fun v hv => kS_zero fun x hx => by have := ha1 x hx; omega
    have zb : ∀ v, v ≤ s.v → kS v b = 0 := fun v hv => kS_zero fun x hx => by have := hb1 x hx; omega
    have e : t.v = s.v := by
      rcases Int.lt_trichotomy t.v s.v with c | c | c
      · have h1 := h t.v t0.1
        simp only [kS, if_true] at h1
        rw [if_neg (by omega), za _ (Int.le_refl _), zb _ (by omega)] at h1; omega
      · exact c
      · have h1 := h s.v s0.1
        simp only [kS, if_true] at h1
        rw [if_neg (by omega), za _ (by omega), zb _ (Int.le_refl _)] at h1; omega
    have ek : t.k = s.k := by
      have h1 := h t.v t0.1
      simp only [kS, if_true] at h1
      rw [if_pos e.symm, za _ (Int.le_refl _), zb _ (by omega)] at h1; omega
    have : t = s := by cases t; cases s; simp_all
    subst this
    rw [sum_uniq ha2 hb2 (fun x hx => pa x (List.mem_cons_of_mem _ hx)) (fun x hx => pb x (List.mem_cons_of_mem _ hx)) (fun v hv => by
      have h1 := h v hv
      simp only [kS] at h1; omega)]
theorem IsSum.uniq {L a b : List Tm} (ha : IsSum L a) (hb : IsSum L b) : a = b :=
  sum_uniq ha.up hb.up (fun t h => ⟨(ha.pos t h).1, (ha.pos t h).2.1⟩) (fun t h => ⟨(hb.pos t h).1, (hb.pos t h).2.1⟩) fun v hv => by rw [ha.eq v hv, hb.eq v hv]
/-- the last one counts more -/
def addL (k : Int) : List Tm → List Tm
  | [] => []
  | [t] => [⟨t.v, (t.k + k) % 288230376287764481⟩]
  | t :: s :: l => t :: addL k (s :: l)
def accS : Option Int → List Tm → List Tm → List Tm
  | _, out, [] => out
  | p, out, t :: r => if t.v < 0 then accS (some t.v) out r else accS (some t.v) (addL t.k (if p = some t.v then out else out ++ [⟨t.v, 0⟩])) r
theorem addL_snoc (k : Int) (t : Tm) : ∀ l : List Tm, addL k (l ++ [t]) = l ++ [⟨t.v, (t.k + k) % 288230376287764481⟩]
  | [] => rfl
  | [s] => rfl
  | s :: r :: l => by
    have := addL_snoc k t (r :: l)
    simp only [List.cons_append] at this ⊢
    rw [addL, this]
theorem addL_len (k : Int) : ∀ l : List Tm, (addL k l).length = l.length
  | [] => rfl
  | [s] => rfl
  | s :: r :: l => by simp only [addL, List.length_cons, addL_len k (r :: l)]
structure AccI (p : Option Int) (out : List Tm) : Prop where
  up : out.Pairwise (fun a b => a.v < b.v)
  pos : ∀ t ∈ out, 0 ≤ t.v ∧ 0 ≤ t.k ∧ t.k < 288230376287764481
  lt : ∀ v, p = some v → ∀ t ∈ out, t.v ≤ v
  nil : p = none → out = []
  last : ∀ v, p = some v → 0 ≤ v → ∃ l t, out = l ++ [t] ∧ t.v = v
theorem AccI.snoc {l : List Tm} {t : Tm} (h : ∀ s ∈ l, s.v < t.v) (hu : l.Pairwise (fun a b => a.v < b.v)) (hp : ∀ t ∈ l, 0 ≤ t.v ∧ 0 ≤ t.k ∧ t.k < 288230376287764481) (t0 : 0 ≤ t.v) (t1 : 0 ≤ t.k) (t2 : t.k < 288230376287764481) : AccI (some t.v) (l ++ [t]) where
  up := List.pairwise_append.2 ⟨hu, List.pairwise_singleton _ _, fun a ha b hb => by simp only [List.mem_singleton] at hb; subst hb; exact h a ha⟩
  pos := fun s hs => by
    rcases List.mem_append.1 hs with hs | hs
    · exact hp s hs
    · simp only [List.mem_singleton] at hs; subst hs; exact ⟨t0, t1, t2⟩
  lt := fun v hv s hs => by
    cases hv
    rcases List.mem_append.1 hs with hs | hs
    · have := h s hs; omega
    · simp only [List.mem_singleton] at hs; subst hs; exact Int.le_refl _
  nil := fun h => by cases h
  last := fun v hv _ => by cases hv; exact ⟨l, t, rfl, rfl⟩
theorem accS_spec : ∀ {r : List Tm} {p : Option Int} {out : List Tm}, AccI p out → r.Pairwise (fun a b => a.v ≤ b.v) → (∀ v, p = some v → ∀ t ∈ r, v ≤ t.v) →
    (accS p out r).Pairwise (fun a b => a.v < b.v) ∧ (∀ t ∈ accS p out r, 0 ≤ t.v ∧ 0 ≤ t.k ∧ t.k < 288230376287764481) ∧ ∀ v, 0 ≤ v → kS v (accS p out r) % 288230376287764481 = (kS v out + kS v r) % 288230376287764481
  | [], p, out, hI, _, _ => ⟨hI.up, hI.pos, fun v _ => by simp only [accS, kS, Int.add_zero]⟩
  | t :: r, p, out, hI, hr, hp => by
    obtain ⟨hr1, hr2⟩ := List.pairwise_cons.1 hr
    have hn : ∀ v, some t.v = some v → ∀ s ∈ r, v ≤ s.v := fun v hv s hs => by cases hv; exact hr1 s hs
    simp only [accS]
    by_cases c : t.v < 0
    · rw [if_pos c]
      have hI' : AccI (some t.v) out := by
        refine ⟨hI.up, hI.pos, ?_, (by intro h; cases h), ?_⟩
        · intro v hv s hs
          cases hv
          cases p with
          | none => rw [hI.nil rfl] at hs; cases hs
          | some q => have h1 := hI.lt q rfl s hs; have h2 := hp q rfl t (by simp); omega
        · intro v hv h0; cases hv; omega
      obtain ⟨h1, h2, h3⟩ := accS_spec hI' hr2 hn
      refine ⟨h1, h2, fun v hv => ?_⟩
      rw [h3 v hv]
      simp only [kS]
      rw [if_neg (by omega), Int.zero_add]
    · rw [if_neg c]
      have key : ∃ l k0, (if p = some t.v then out else out ++ [⟨t.v, 0⟩]) = l ++ [⟨t.v, k0⟩] ∧ (∀ s ∈ l, s.v < t.v) ∧ l.Pairwise (fun a b => a.v < b.v) ∧ (∀ t ∈ l, 0 ≤ t.v ∧ 0 ≤ t.k ∧ t.k < 288230376287764481) ∧ (∀ v, kS v out = kS v (l ++ [⟨t.v, k0⟩])) := by
        by_cases e : p = some t.v
        · rw [if_pos e]
          obtain ⟨l, s, rfl, hs⟩ := hI.last t.v e (by omega)
          obtain ⟨sv, sk⟩ := s
          simp only at hs
          subst hs
          have hu := List.pairwise_append.1 hI.up
          exact ⟨l, sk, rfl, fun x hx => hu.2.2 x hx ⟨t.v, sk⟩ (List.mem_singleton.2 rfl), hu.1, fun x hx => hI.pos x (List.mem_append_left _ hx), fun v => rfl⟩
        · rw [if_neg e]
          refine ⟨out, 0, rfl, ?_, hI.up, hI.pos, fun v => by rw [kS_app]; simp [kS]⟩
          intro s hs
          cases p with
          | none => rw [hI.nil rfl] at hs; cases hs
          | some q =>
            have h1 := hI.lt q rfl s hs
            have h2 := hp q rfl t (by simp)
            have h3 : q ≠ t.v := fun h => e (by rw [h])
            omega
      obtain ⟨l, k0, e, k1, k2, k3, k4⟩ := key
      rw [e, addL_snoc]
      have hm := Int.emod_nonneg (k0 + t.k) (show (288230376287764481:Int) ≠ 0 by decide)
      have hm' := Int.emod_lt_of_pos (k0 + t.k) (show (0:Int) < 288230376287764481 by decide)
      obtain ⟨h1, h2, h3⟩ := accS_spec (AccI.snoc (t := ⟨t.v, (k0 + t.k) % 288230376287764481⟩) k1 k2 k3 (by show 0 ≤ t.v; omega) hm hm') hr2 hn
      refine ⟨h1, h2, fun v hv => ?_⟩
      rw [h3 v hv, k4 v, kS_app, kS_app]
      simp only [kS]
      split <;> omega
def kept0 (L : List Tm) : List Tm := L.filter fun t => !(t.k == 0)
theorem kS_kept0 (v : Int) : ∀ L : List Tm, kS v (kept0 L) = kS v L
  | [] => rfl
  | t :: l => by
    simp only [kept0, List.filter_cons]
    cases h : (t.k == 0)
    · simp only [Bool.not_false, if_true, kS]; rw [show kS v (List.filter (fun t => !(t.k == 0)) l) = kS v l from kS_kept0 v l]
    · simp only [Bool.not_true, Bool.false_eq_true, if_false, kS]
      rw [show kS v (List.filter (fun t => !(t.k == 0)) l) = kS v l from kS_kept0 v l]
      have : t.k = 0 := by simpa using h
      rw [this]; simp
theorem kS_bound {v : Int} : ∀ {out : List Tm}, out.Pairwise (fun a b => a.v < b.v) → (∀ t ∈ out, 0 ≤ t.k ∧ t.k < 288230376287764481) → 0 ≤ kS v out ∧ kS v out < 288230376287764481
  | [], _, _ => by simp [kS]
  | t :: l, hu, hp => by
    obtain ⟨h1, h2⟩ := List.pairwise_cons.1 hu
    simp only [kS]
    have t0 := hp t (by simp)
    split
    · rename_i e
      rw [kS_zero fun s hs => by have := h1 s hs; omega]; omega
    · have := kS_bound h2 (fun s hs => hp s (List.mem_cons_of_mem _ hs)) (v := v); omega
theorem accS_sum {S L : List Tm} (hS : S.Perm L) (hs : S.Pairwise (fun a b => a.v ≤ b.v)) : IsSum L (kept0 (accS none [] S)) := by
  obtain ⟨h1, h2, h3⟩ := accS_spec (p := none) (out := []) ⟨List.Pairwise.nil, by simp, by simp, fun _ => rfl, by simp⟩ hs (fun v hv => by cases hv)
  refine ⟨h1.filter _, fun t ht => ?_, fun v hv => ?_⟩
  · obtain ⟨ht1, ht2⟩ := List.mem_filter.1 ht
    have := h2 t ht1
    have h0 : t.k ≠ 0 := by simpa using ht2
    omega
  · have hb := kS_bound (v := v) (h1.filter fun t => !(t.k == 0)) (fun t ht => (h2 t (List.mem_filter.1 ht).1).2)
    have e := h3 v hv
    rw [← kS_kept0] at e
    simp only [kS, Int.zero_add, kS_perm hS] at e
    rw [← e]
    exact (Int.emod_eq_of_lt hb.1 hb.2).symm
def insT (t : Tm) : List Tm → List Tm
  | [] => [t]
  | s :: l => if t.v ≤ s.v then t :: s :: l else s :: insT t l
theorem insT_perm (t : Tm) : ∀ l, (insT t l).Perm (t :: l)
  | [] => List.Perm.refl _
  | s :: l => by
    simp only [insT]
    split
    · exact List.Perm.refl _
    · exact ((insT_perm t l).cons s).trans (List.Perm.swap _ _ _)
theorem insT_up (t : Tm) : ∀ {l : List Tm}, l.Pairwise (fun a b => a.v ≤ b.v) → (insT t l).Pairwise (fun a b => a.v ≤ b.v)
  | [], _ => List.pairwise_singleton _ _
  | s :: l, h => by
    obtain ⟨h1, h2⟩ := List.pairwise_cons.1 h
    simp only [insT]
    split
    · rename_i c
      refine List.pairwise_cons.2 ⟨fun x hx => ?_, h⟩
      rcases List.mem_cons.1 hx with rfl | hx
      · exact c
      · have := h1 x hx; omega
    · rename_i c
      refine List.pairwise_cons.2 ⟨fun x hx => ?_, insT_up t h2⟩
      rcases List.mem_cons.1 ((insT_perm t l).mem_iff.1 hx) with rfl | hx
      · omega
      · exact h1 x hx
def srt : List Tm → List Tm
  | [] => []
  | t :: l => insT t (srt l)
theorem srt_perm : ∀ l, (srt l).Perm l
  | [] => List.Perm.refl _
  | t :: l => (insT_perm t (srt l)).trans ((srt_perm l).cons t)
theorem srt_up : ∀ l, (srt l).Pairwise (fun a b => a.v ≤ b.v)
  | [] => List.Pairwise.nil
  | t :: l => insT_up t (srt_up l)
/-- the sum of terms -/
def sumT (L : List Tm) : List Tm := kept0 (accS none [] (srt L))
theorem sumT_is (L : List Tm) : IsSum L (sumT L) := accS_sum (srt_perm L) (srt_up L)
theorem accS_eq {S L : List Tm} (hS : S.Perm L) (hs : S.Pairwise (fun a b => a.v ≤ b.v)) : kept0 (accS none [] S) = sumT L := (accS_sum hS hs).uniq (sumT_is L)
end Go.Proofs.YtngphcdhdllnnaaGreat.E.M
end
section
namespace Go.Proofs.YtngphcdhdllnnaaGreat
open Go Go.Proofs Go.RowKit Go.Shelf
set_option linter.unusedVariables false
set_option linter.unusedSimpArgs false
attribute [local go_sem] Oper.semAt_some

/-- A term's two cells. -/
abbrev tm2 (x : Int × Int) : Array Value := #[.int .i64 x.1, .int .u64 x.2]
/-- What has come when k rounds are over. -/
def uptoT {α : Type} (f : Nat → α) (k : Nat) : List α := (List.range k).map f
theorem uptoT_succ {α : Type} (f : Nat → α) (k : Nat) : uptoT f (k + 1) = uptoT f k ++ [f k] := by simp [uptoT, List.range_succ]
theorem uptoT_length {α : Type} (f : Nat → α) (k : Nat) : (uptoT f k).length = k := by simp [uptoT]
theorem uptoT_all (zs : List (Int × Int)) : uptoT (fun j => zs[j]?.getD (0, 0)) zs.length = zs := by
  apply List.ext_getElem
  · simp [uptoT]
  · intro i h1 h2
    simp [uptoT, h2]
theorem uptoT_take (zs : List (Int × Int)) {k : Nat} (hk : k ≤ zs.length) : uptoT (fun j => zs[j]?.getD (0, 0)) k = zs.take k := by
  apply List.ext_getElem
  · simp [uptoT, hk]
  · intro i h1 h2
    have : i < zs.length := by simp [uptoT] at h1; omega
    simp [uptoT, this]

set_option maxRecDepth 100000 in
set_option maxHeartbeats 4000000 in
/-- slices.Values's own function, at terms. -/
theorem tvals1_in (F : Fence) (n : Nat) (hf : F.fn 86) (hro : F.round = none) (hn : 1 ≤ n) (l Bs ob n₀ b off len cap : Nat) (zs : List (Int × Int)) (hreach : len * 16 ≤ 140737488351232) (hb : b < n₀) (J Jx : List (Int × Int) → World → Prop)
    (B : Nat) (hJ : AbidesFrom B J)
    (hY : ∀ pre x W, J pre W → pre.length < len → YieldAt F (n - 1) Tryz.prog l #[.agg (tm2 x)] W fun e W' =>
      (e = .returned (.bool true) ∧ J (pre ++ [x]) W' ∧ Below n₀ W W') ∨ (e = .returned (.bool false) ∧ Jx (pre ++ [x]) W'))
    (W : World) (hn₀ : n₀ ≤ W.heap.size) (hBs : W.cell? ⟨Bs, ob, none⟩ = some (.slice (some ⟨b, off, none⟩) len cap))
    (hc : ∀ j, j < len → W.cell? ⟨b, off + j * 2, none⟩ = some (.int .i64 (zs[j]?.getD (0, 0)).1) ∧ W.cell? ⟨b, off + j * 2 + 1, none⟩ = some (.int .u64 (zs[j]?.getD (0, 0)).2)) (h0 : J [] W) :
    CallsIn F n Tryz.prog 86 #[.func (.yield l) #[] #[], .pointer (some ⟨Bs, ob, none⟩)] W fun e W' => (∃ v, e = .returned v) ∧
      ((∃ ys, ys = uptoT (fun j => zs[j]?.getD (0, 0)) len ∧ J ys W') ∨ (∃ pre, (∃ k, k ≤ len ∧ pre = uptoT (fun j => zs[j]?.getD (0, 0)) k) ∧ Jx pre W')) := by
  refine callsIn_of_wp Tryz.func86 rfl hf ?_ hro
  simp only [Tryz.ntmps86, List.size_toArray, List.length_cons, List.length_nil, Nat.reduceAdd, Nat.reduceSub, Array.replicate_succ, Array.replicate_zero, List.push_toArray, List.append_toArray, List.nil_append, List.cons_append]
  gi_wp2
  gi_loopw [7] (fun i wr => ∃ k : Nat, k ≤ len ∧ i = .int .i64 k ∧ J (uptoT (fun j => zs[j]?.getD (0, 0)) k) wr ∧ Below n₀ W wr ∧ n₀ ≤ wr.heap.size)
    (fun i _ => len - (intOf i).toNat)
  case atStart => exact ⟨0, Nat.zero_le _, rfl, h0, Below.refl _ _, hn₀⟩
  case round =>
    obtain ⟨k, hk, rfl, hJs, hnx, hsz⟩ := hrel
    by_cases hlt : k < len
    · have hcx := (hnx.cell (p := ⟨b, off + k * 2, none⟩) hb).trans (hc k hlt).1
      have hcy := (hnx.cell (p := ⟨b, off + k * 2 + 1, none⟩) hb).trans (hc k hlt).2
      obtain ⟨W1, hW1⟩ : ∃ W1, wr.alloc (.cells (tm2 (zs[k]?.getD (0, 0))) 80) = W1 := ⟨_, rfl⟩
      have hg : wr.grownBy W1 none := by rw [← hW1]; exact World.grownBy_alloc wr _ none
      have hnx1 : Below n₀ W W1 := by rw [← hW1]; exact hnx.alloc hsz _
      have hsz1 : n₀ ≤ W1.heap.size := by rw [← hW1]; simp; omega
      have hJ1 := hJ _ wr W1 none hJs hg (fun r e => by cases e)
      obtain ⟨fn, tmps, assign, body, hy, hR⟩ := hY _ (zs[k]?.getD (0, 0)) W1 hJ1 (by rw [uptoT_length]; exact hlt)
      subst hW1
      dsimp only [tm2] at hy hR
      gi_wp2
      refine hR.mono ?_
      rintro e W3 (⟨rfl, hJ3, hk3⟩ | ⟨rfl, hJx3⟩)
      · -- THE ROUND GOES ON
        have hk4 := (hnx.alloc hsz _).trans hk3
        gi_wp2
        go_roundw
        case rel => exact ⟨k + 1, by omega, by simp, by rw [uptoT_succ]; exact hJ3, hk4, Nat.le_trans hn₀ hk4.size⟩
        case measure => simp [intOf]; omega
      · gi_wp2
        refine bodyPost_ret (results_none rfl _ _ _) rfl ?_
        exact ⟨⟨_, rfl⟩, .inr ⟨_, ⟨k + 1, by omega, (uptoT_succ _ _).symm⟩, hJx3⟩⟩
    · obtain rfl : k = len := by omega
      gi_wp2
      go_end0
      exact ⟨⟨_, rfl⟩, .inl ⟨_, rfl, hJs⟩⟩

/-- The slice value sv holds the terms zs, in a block below n₀; or it is nil and there are none. -/
def Terms (n₀ : Nat) (W : World) (sv : Value) (zs : List (Int × Int)) : Prop :=
  (∃ base cap, sv = .slice base 0 cap ∧ zs = []) ∨ ∃ b off cap, sv = .slice (some ⟨b, off, none⟩) zs.length cap ∧ b < n₀ ∧ ∀ j, j < zs.length → W.cell? ⟨b, off + j * 2, none⟩ = some (.int .i64 (zs[j]?.getD (0, 0)).1) ∧ W.cell? ⟨b, off + j * 2 + 1, none⟩ = some (.int .u64 (zs[j]?.getD (0, 0)).2)
theorem Terms.below {n₀ : Nat} {A B : World} (h : Below n₀ A B) {sv : Value} {zs : List (Int × Int)} : Terms n₀ A sv zs → Terms n₀ B sv zs
  | .inl e => .inl e
  | .inr ⟨b, off, cap, e, hb, hc⟩ => .inr ⟨b, off, cap, e, hb, fun j hj => ⟨(h.cell (p := ⟨b, off + j * 2, none⟩) hb).trans (hc j hj).1, (h.cell (p := ⟨b, off + j * 2 + 1, none⟩) hb).trans (hc j hj).2⟩⟩

set_option maxRecDepth 100000 in
set_option maxHeartbeats 1000000 in
/-- .. at the nil slice: no round. -/
theorem tvals1_nil_in (F : Fence) (n : Nat) (hf : F.fn 86) (hro : F.round = none) (l Bs ob cap : Nat) (base : Option Addr) (J : List (Int × Int) → World → Prop) (W : World) (hBs : W.cell? ⟨Bs, ob, none⟩ = some (.slice base 0 cap)) (h0 : J [] W) :
    CallsIn F n Tryz.prog 86 #[.func (.yield l) #[] #[], .pointer (some ⟨Bs, ob, none⟩)] W fun e W' => (∃ v, e = .returned v) ∧ J [] W' := by
  refine callsIn_of_wp Tryz.func86 rfl hf ?_ hro
  simp only [Tryz.ntmps86, List.size_toArray, List.length_cons, List.length_nil, Nat.reduceAdd, Nat.reduceSub, Array.replicate_succ, Array.replicate_zero, List.push_toArray, List.append_toArray, List.nil_append, List.cons_append]
  gi_wp2
  gi_loopw [7] (fun i wr => i = .int .i64 0 ∧ J [] wr) (fun _ _ => 0)
  case atStart => exact ⟨rfl, h0⟩
  case round =>
    obtain ⟨rfl, hJs⟩ := hrel
    gi_wp2
    go_end0
    exact ⟨⟨_, rfl⟩, hJs⟩

set_option maxHeartbeats 1000000 in
/-- slices.Values(s): the slice value is boxed; the function value captures the box. -/
theorem tvals_in (F : Fence) (n : Nat) (hf : F.fn 76) (hro : F.round = none) (a : Option Addr) (len cap : Nat) (w : World) :
    CallsIn F n Tryz.prog 76 #[.slice a len cap] w fun e w' => e = .returned (.func (.func 86) #[] #[.pointer (some ⟨w.heap.size, 0, none⟩)]) ∧ w' = w.alloc (.cells #[.slice a len cap] 81) := by
  refine callsIn_of_wp Tryz.func76 rfl hf ?_ hro
  simp only [Tryz.ntmps76, List.size_toArray, List.length_cons, List.length_nil, Nat.reduceAdd, Nat.reduceSub, Array.replicate_succ, Array.replicate_zero, List.push_toArray, List.append_toArray, List.nil_append, List.cons_append]
  gi_wp2
  go_ret
  exact ⟨rfl, rfl⟩

/-- slices.Values(s) hands back a value that gives all of zs, in order; or a part. -/
theorem tvals_stops (F : Fence) (n : Nat) (hf : F.fn 86) (hro : F.round = none) (hn : 1 ≤ n) (Bs ob n₀ : Nat) (sv : Value) (zs : List (Int × Int)) (hreach : zs.length * 16 ≤ 140737488351232) (w : World) (hBs : Bs < w.heap.size) (hn₀ : n₀ ≤ w.heap.size)
    (hc : w.cell? ⟨Bs, ob, none⟩ = some sv) (hI : Terms n₀ w sv zs) :
    SeqStopsK F n Tryz.prog 86 #[.pointer (some ⟨Bs, ob, none⟩)] (fun x : Int × Int => #[Value.agg (tm2 x)]) (Below n₀) (fun ys => ys = zs) (fun pre => pre <+: zs) zs.length w := fun l J Jx W hW hJ _ hY h0 => by
  have hc' := (hW.cell (p := ⟨Bs, ob, none⟩) hBs).trans hc
  rcases hI.below (hW.mono hn₀) with ⟨base, cap, rfl, rfl⟩ | ⟨b, off, cap, rfl, hb, hcs⟩
  · exact (tvals1_nil_in F n hf hro l Bs ob cap base J W hc' h0).mono fun e W' ⟨he, hj⟩ => ⟨he, .inl ⟨_, rfl, hj⟩⟩
  · refine (tvals1_in F n hf hro hn l Bs ob n₀ b off zs.length cap zs hreach hb J Jx _ hJ hY W (Nat.le_trans hn₀ hW.size) hc' hcs h0).mono ?_
    rintro e W' ⟨he, ⟨ys, rfl, hj⟩ | ⟨pre, ⟨k, hk, rfl⟩, hj⟩⟩
    · exact ⟨he, .inl ⟨_, uptoT_all zs, hj⟩⟩
    · exact ⟨he, .inr ⟨_, by rw [uptoT_take zs hk]; exact List.take_prefix _ _, hj⟩⟩
end Go.Proofs.YtngphcdhdllnnaaGreat
end
section
namespace Go.Proofs.YtngphcdhdllnnaaGreat
open Go Go.Proofs Go.RowKit Go.Shelf
set_option linter.unusedVariables false
set_option linter.unusedSimpArgs false
attribute [local go_sem] Oper.semAt_some

/-- The cells of terms, one behind the other. -/
def flT (zs : List (Int × Int)) : List Value := zs.flatMap fun x => [.int .i64 x.1, .int .u64 x.2]
theorem flT_snoc (zs : List (Int × Int)) (x : Int × Int) : flT (zs ++ [x]) = flT zs ++ [.int .i64 x.1, .int .u64 x.2] := by simp [flT]
theorem cell_two_new (w : World) (x y : Value) (t : TypeId) : ∀ j u, [x, y][j]? = some u → (w.alloc (.cells #[x, y] t)).cell? ((⟨w.heap.size, 0, none⟩ : Addr).add j) = some u := by
  have h := World.alloc_heap_new w (.cells #[x, y] t)
  intro j u hj
  match j, hj with
  | 0, hj => simp at hj; subst hj; simp only [World.cell?, Addr.add, Nat.zero_add, Nat.add_zero, if_true, Nat.one_ne_zero, if_false]; rw [h]; rfl
  | 1, hj => simp at hj; subst hj; simp only [World.cell?, Addr.add, Nat.zero_add, Nat.add_zero, if_true, Nat.one_ne_zero, if_false]; rw [h]; rfl
  | j + 2, hj => simp at hj
theorem infoTm : (Tryz.prog.info? 80).map (fun i => (i.zero, i.size, i.bytes)) = some (some (.agg #[.int .i64 0, .int .u64 0]), 2, 16) := by kernel_rfl

set_option maxRecDepth 100000 in
set_option maxHeartbeats 4000000 in
/-- slices.AppendSeq(nil, seq), at terms. -/
theorem tapp_in (F : Fence) (n : Nat) (hf : F.fn 90) (hro : F.round = none) (hn : 3 ≤ n) (g : Nat) (lb : Array Value) (hFg : F.fn g) (eg : ∀ args w, (callFunc g args).run Tryz.prog w = .ok (.enter g args) w)
    (zs : List (Int × Int)) (hN : zs.length ≤ maxLen) (hNb : zs.length * 16 ≤ 140737488355328) (n₀ : Nat) (w : World) (hn₀ : n₀ ≤ w.heap.size)
    (hseq : SeqStopsK F (n - 1) Tryz.prog g lb (fun x : Int × Int => #[Value.agg (tm2 x)]) (Below n₀) (fun ys => ys = zs) (fun pre => pre <+: zs) zs.length w) :
    CallsIn F n Tryz.prog 90 #[.slice none 0 0, .func (.func g) #[] lb] w fun e w' => ∃ v, e = .returned v ∧ w'.ownsRow w.heap.size 80 2 v zs.length (flT zs) ∧ (v = .slice none 0 0 ↔ zs = []) ∧ Below w.heap.size w w' := by
  have h1 : 1 ≤ n := by omega
  obtain ⟨i0, hi, hz0, hz1, hz2⟩ := info_parts infoTm
  refine callsIn_of_wp_marks Tryz.func90 rfl hf ?_ hro
  simp only [Tryz.ntmps90, List.size_toArray, List.length_cons, List.length_nil, Nat.reduceAdd, Nat.reduceSub, Array.replicate_succ, Array.replicate_zero, List.push_toArray, List.append_toArray, List.nil_append, List.cons_append]
  gi_wp2
  have bS := Boxed.new w 81 (.slice none 0 0)
  have hB0 : Below w.heap.size w (w.alloc (.cells #[.slice none 0 0] 81)) := (Below.refl _ w).alloc (Nat.le_refl _) _
  have hsz : (w.alloc (.cells #[.slice none 0 0] 81)).heap.size = w.heap.size + 1 := by simp
  obtain ⟨W0, hW0⟩ : ∃ W0, w.alloc (.cells #[.slice none 0 0] 81) = W0 := ⟨_, rfl⟩
  rw [hW0] at bS hB0 hsz ⊢
  clear hW0
  refine wpIn_rangeFunc_ownH hro h1 (gf := g) (lb := lb) rfl hFg eg hseq belowK_t (belowK_b (by omega)) hB0 (fun _ => rfl)
    (fun pre W => (∃ v, Boxed W w.heap.size 81 v ∧ W.ownsRow w.heap.size 80 2 v pre.length (flT pre) ∧ (v = .slice none 0 0 ↔ pre = [])) ∧ Below w.heap.size w W)
    (fun _ _ _ => False)
    (OwnFrom.and (Own.from (holdsRow_own w.heap.size w.heap.size 81 80 2 (fun pre : List (Int × Int) => pre.length) flT (fun pre v => (v = .slice none 0 0 ↔ pre = []))) _) (ownFrom_below (Nat.le_refl _) (by omega)))
    (fun _ _ _ _ _ hs _ _ => hs)
    ⟨⟨_, bS, World.ownsRow_nil _ _ _ _, by simp⟩, hB0⟩
    (fun x a' W => ∃ Bx, w.heap.size < Bx ∧ W.heap[Bx]? = some (.cells (tm2 x) 80 (0, 0)) ∧ a' = { tmps := #[.slice none 0 0, .func (.func g) #[] lb, .pointer (some ⟨w.heap.size, 0, none⟩), undef, .slice none 0 0, .pointer (some ⟨Bx, 0, none⟩), .func (.func g) #[] lb, .agg (tm2 x), undef, undef, undef, undef, undef], defers := [] })
    (fun x a' _ X Y row hs hg hr => by
      obtain ⟨Bx, h1, h2, h3⟩ := hs
      refine ⟨Bx, h1, (hg.block Bx (Array.getElem?_eq_some_iff.1 h2).1 (fun e => ?_)).trans h2, h3⟩
      obtain ⟨_, o, ho, hc⟩ := hr Bx e.symm
      rw [h2] at ho; cases ho; cases hc)
    ?assign ?body ?done ?stop
  case assign =>
    rintro l pre x W K ⟨⟨v, bv, hrow, hnil⟩, hB1⟩ hK
    gi_wp2
    exact hK _ _ ((KeepsOthers.alloc _ _).from _) ((Below.refl _ W).alloc (Nat.le_trans hn₀ hB1.size) _) ⟨⟨v, bv.alloc _, hrow.alloc _, hnil⟩, hB1.alloc hB1.size _⟩ ⟨W.heap.size, bv.lt, World.alloc_heap_new W _, rfl⟩
  case body =>
    rintro l pre x a' W hl ⟨r, hr⟩ ⟨⟨v, bv, hrow, hnil⟩, hB1⟩ ⟨Bx, hBx, bX, rfl⟩ hlt
    have cv := bv.cell
    have cX : W.cell? ⟨Bx, 0, none⟩ = some (.int .i64 x.1) := by simp [World.cell?, bX]
    have cY : W.cell? ⟨Bx, 1, none⟩ = some (.int .u64 x.2) := by simp [World.cell?, bX]
    have hle := hB1.size
    gi_wp2_with (gi_at_builtin; refine wpListIn_append_own _ rfl _ _ 81 rfl w.heap.size 80 i0 (.agg #[.int .i64 0, .int .u64 0]) 2 16 Tryz.underlying81 hi hz0 hz1 hz2 rfl (by decide) _ _ _ rfl (hrow.alloc _) ⟨W.heap.size, 0, none⟩ 1 1 [.int .i64 x.1, .int .u64 x.2] rfl rfl (cell_two_new _ _ _ _) (by simp [Value.oneCell']) (by omega) (by omega) (by simp; omega) ?_; intro v' w1 hown' hgrow _; obtain ⟨g', cap', rfl⟩ := ownsRow_succ hown'; obtain ⟨hv1, hv2, hr2, hk2, hb2⟩ := bv.appended (by decide) hrow hle (Nat.le_refl _) hown' hgrow; have hc1 := hv1.cell; have hf1 := hv1.frozen)
    refine ⟨hk2.from _, hb2.mono hn₀, ⟨_, hv2, by simpa [flT_snoc] using hr2, by simp⟩, hB1.trans hb2⟩
  case done =>
    rintro D ys W hD rfl ⟨⟨v, bv, hrow, hnil⟩, hB1⟩ hK
    have cv := bv.cell
    gi_wp2
    refine ⟨by simp, .inl ⟨_, _, rfl, run_takeDeferred hK, ?_⟩⟩
    exact ⟨_, results_tmp rfl _ _ _, v, rfl, ownsRow_putObj hrow _ hK rfl, hnil, hB1.trans (belowK_b (w := w) (Nat.le_refl _) W D _ _ (by omega) hK rfl rfl)⟩
  case stop =>
    rintro D c pre W _ _ h _
    exact h.elim

set_option maxHeartbeats 1000000 in
/-- slices.Collect(seq), at terms. -/
theorem tcol_in (F : Fence) (n : Nat) (hc : F.fn 84) (hf : F.fn 90) (hro : F.round = none) (hn : 4 ≤ n) (g : Nat) (lb : Array Value) (hFg : F.fn g) (eg : ∀ args w, (callFunc g args).run Tryz.prog w = .ok (.enter g args) w)
    (zs : List (Int × Int)) (hN : zs.length ≤ maxLen) (hNb : zs.length * 16 ≤ 140737488355328) (n₀ : Nat) (w : World) (hn₀ : n₀ ≤ w.heap.size)
    (hseq : SeqStopsK F (n - 1 - 1) Tryz.prog g lb (fun x : Int × Int => #[Value.agg (tm2 x)]) (Below n₀) (fun ys => ys = zs) (fun pre => pre <+: zs) zs.length w) :
    CallsIn F n Tryz.prog 84 #[.func (.func g) #[] lb] w fun e w' => ∃ v, e = .returned v ∧ w'.ownsRow w.heap.size 80 2 v zs.length (flT zs) ∧ (v = .slice none 0 0 ↔ zs = []) ∧ Below w.heap.size w w' := by
  have h1 : 1 ≤ n := by omega
  refine callsIn_of_wp Tryz.func84 rfl hc ?_ hro
  simp only [Tryz.ntmps84, List.size_toArray, List.length_cons, List.length_nil, Nat.reduceAdd, Nat.reduceSub, Array.replicate_succ, Array.replicate_zero, List.push_toArray, List.append_toArray, List.nil_append, List.cons_append]
  gi_wp2_with (gi_at_call 90; refine (tapp_in F (n - 1) hf hro (by omega) g lb hFg eg zs hN hNb n₀ _ hn₀ hseq).mono ?_; rintro e w' ⟨v, rfl, hrow, hnil, hb⟩)
  go_ret
  exact ⟨v, rfl, hrow, hnil, hb⟩
end Go.Proofs.YtngphcdhdllnnaaGreat
end
section
namespace Go.Proofs.YtngphcdhdllnnaaGreat
open Go Go.Proofs Go.RowKit Go.Shelf Go.Lib Go.Sort
set_option linter.unusedVariables false
set_option linter.unusedSimpArgs false
shelf_lay_g SlLaysF0.n6 Slsf 6 at Tryz 85 as tmSort
shelf_lay_g SlLaysC2.n5 Slgc 5 at Tryz 78 as tmCmp

def encT (x : Int × Int) : List Value := [.int .i64 x.1, .int .u64 x.2]

set_option maxHeartbeats 1000000 in
theorem tcmp_clo (x y : Int × Int) (W : World) : Calls Tryz.prog 77 #[.agg #[.int .i64 x.1, .int .u64 x.2], .agg #[.int .i64 y.1, .int .u64 y.2]] W fun e w' => e = .returned (.int .i64 (Lib.compareInt x.1 y.1)) ∧ ∃ q os', w' = grow (W.drewN q) os' := by
  have hcon := fun W' => AnyG.cmp_Compare_int tmCmp x.1 y.1 W'
  change ∀ W', Calls Tryz.prog 78 _ _ _ at hcon
  generalize Lib.compareInt x.1 y.1 = r at hcon ⊢
  go_enter Tryz.func77, Tryz.ntmps77
  go_wp2_with (go_at_call 78; refine (hcon _).mono ?_; rintro e w' ⟨rfl, rfl⟩)
  go_ret
  exact ⟨rfl, 0, _, by rw [alloc_eq_grow, alloc_eq_grow, grow_grow]; rfl⟩

theorem tcmp_lays (blk off size : Nat) (w : World) : CmpLays Tryz.prog 77 #[] encT 2 (fun x y => Lib.compareInt x.1 y.1) blk off size w :=
  fun _ _ _ _ x y => tcmp_clo x y _
theorem ltT (x y : Int × Int) : ltOf (fun x y : Int × Int => Lib.compareInt x.1 y.1) x y = decide (x.1 < y.1) := by
  unfold ltOf Lib.compareInt
  by_cases h1 : x.1 < y.1
  · simp [h1]
  · by_cases h2 : y.1 < x.1 <;> simp [h1, h2]
theorem swoT : SWO (ltOf fun x y : Int × Int => Lib.compareInt x.1 y.1) where
  irrefl x := by rw [ltT]; simp
  trans x y z h1 h2 := by rw [ltT] at *; simp at *; omega
  ntrans x y z h1 h2 := by rw [ltT] at *; simp at *; omega

theorem flT_get : ∀ (zs : List (Int × Int)) (j : Nat), j < zs.length * 2 → (flT zs)[j]? = some ((encT (zs.toArray[j / 2]!))[j % 2]!)
  | [], j, h => by simp at h
  | x :: xs, 0, h => by simp [flT, encT]
  | x :: xs, 1, h => by simp [flT, encT]
  | x :: xs, j + 2, h => by
    have ih := flT_get xs j (by simp at h; omega)
    have e1 : (j + 2) / 2 = j / 2 + 1 := by omega
    have e2 : (j + 2) % 2 = j % 2 := by omega
    have e3 : flT (x :: xs) = [.int .i64 x.1, .int .u64 x.2] ++ flT xs := by simp [flT]
    rw [e1, e2, e3, List.getElem?_append_right (by simp)]
    simpa using ih
theorem flT_len (zs : List (Int × Int)) : (flT zs).length = zs.length * 2 := by
  induction zs with
  | nil => rfl
  | cons x xs ih => have e3 : flT (x :: xs) = [.int .i64 x.1, .int .u64 x.2] ++ flT xs := by simp [flT]
                    rw [e3, List.length_append, ih]; simp; omega

theorem sort_block (w : World) (g n : Nat) (d : Array (Int × Int)) (os : Array Obj) (k : Nat) (hk : k < w.heap.size) (hne : k ≠ g) : (sortWorldK encT 2 w g 0 n d os).heap[k]? = w.heap[k]? := by
  have h1 : (putRowK encT 2 (Sort.ahead w n) g 0 d).heap[k]? = w.heap[k]? := by
    simp [putRowK, putRow, mapBlock, Sort.ahead, Array.getElem?_modify, Ne.symm hne]
  have h2 : k < (putRowK encT 2 (Sort.ahead w n) g 0 d).heap.size := by rw [size_putRowK]; exact hk
  show ((putRowK encT 2 (Sort.ahead w n) g 0 d).heap ++ os)[k]? = _
  rw [Array.getElem?_append_left h2, h1]
theorem sort_below (w : World) (g n : Nat) (d : Array (Int × Int)) (os : Array Obj) (n₀ : Nat) (hn : n₀ ≤ g) (hw : n₀ ≤ w.heap.size) : Go.RowKit.Below n₀ w (sortWorldK encT 2 w g 0 n d os) :=
  ⟨rfl, rfl, rfl, size_sortWorldK_c _ _ _ _ _ _ _ _, fun k hk => sort_block w g n d os k (by omega) (by omega)⟩

set_option maxHeartbeats 4000000 in
/-- slices.SortedFunc of slices.Values(s), at terms. -/
theorem tsof_c (Bs ob n₀ : Nat) (sv : Value) (zs : List (Int × Int)) (hlen : zs.length * 16 ≤ 140737488351232) (w : World) (hBs : Bs < w.heap.size) (hn₀ : n₀ ≤ w.heap.size) (hc : w.cell? ⟨Bs, ob, none⟩ = some sv) (hI : Terms n₀ w sv zs) :
    Calls Tryz.prog 75 #[.func (.func 86) #[] #[.pointer (some ⟨Bs, ob, none⟩)], .func (.func 77) #[] #[]] w fun e w' =>
      ∃ v zs', e = .returned v ∧ zs'.Perm zs ∧ zs'.Pairwise (fun a b : Int × Int => a.1 ≤ b.1) ∧ Go.RowKit.Below w.heap.size w w' ∧
        ((v = .slice none 0 0 ∧ zs' = []) ∨ ∃ g cap, v = .slice (some ⟨g, 0, none⟩) zs'.length cap ∧ zs'.length ≤ cap ∧ cap ≤ maxLen ∧ w.heap.size ≤ g ∧ g < w'.heap.size ∧ ∀ (j : Nat) u, (flT zs')[j]? = some u → w'.cell? ⟨g, j, none⟩ = some u) := by
  have hmax : zs.length ≤ maxLen := by simp only [maxLen]; omega
  refine (callsIn_wide (n := 8)).1 ?_
  refine callsIn_of_wp Tryz.func75 rfl trivial ?_ rfl
  simp only [Tryz.ntmps75, List.size_toArray, List.length_cons, List.length_nil, Nat.reduceAdd, Nat.reduceSub, Array.replicate_succ, Array.replicate_zero, List.push_toArray, List.append_toArray, List.nil_append, List.cons_append]
  have hcol := tcol_in Fence.wide 7 trivial trivial rfl (by omega) 86 #[.pointer (some ⟨Bs, ob, none⟩)] trivial (enters_of Tryz.func86 (by kernel_rfl) rfl) zs hmax (by omega) n₀ w hn₀ (tvals_stops Fence.wide 5 trivial rfl (by omega) Bs ob n₀ sv zs hlen w hBs hn₀ hc hI)
  gi_wp2_with (refine ⟨trivial, ?_⟩; gi_at_call 84; refine hcol.mono ?_; rintro e w1 ⟨v, rfl, hrow, hnil, hb⟩)
  rcases hrow.2 with ⟨rfl, h0⟩ | ⟨g, cap, cur, rfl, hg, hgb, hcap, hcm, hcs, htk⟩
  · have hz : zs = [] := hnil.1 rfl
    subst hz
    have hnone := AnyF.slices_SortFunc_none tmSort none 0 (.func (.func 77) #[] #[]) w1
    change Calls Tryz.prog 85 _ _ _ at hnone
    gi_wp2_with (refine ⟨trivial, ?_⟩; gi_at_call 85; refine (callsIn_wide.2 hnone).mono ?_; rintro e w' ⟨rfl, rfl⟩)
    go_ret
    exact ⟨_, [], rfl, List.Perm.refl _, List.Pairwise.nil, hb, .inl ⟨rfl, rfl⟩⟩
  · have hglt : g < w1.heap.size := (Array.getElem?_eq_some_iff.1 hgb).1
    have hgc : ∀ (j : Nat) u, (flT zs)[j]? = some u → w1.cell? ⟨g, j, none⟩ = some u ∧ w1.frozen? ⟨g, j, none⟩ = false := by
      intro j u hj
      rw [← htk, List.getElem?_take] at hj
      split at hj
      · constructor
        · simp [World.cell?, hgb]; simpa using hj
        · simp [World.frozen?, hgb]
      · cases hj
    have hH : HoldsK encT 2 w1 g 0 zs.toArray := by
      intro j hj
      have hj' : j < zs.length * 2 := by simpa [flatK] using hj
      have := hgc j _ (flT_get zs j hj')
      simpa [flatK, hj'] using this
    have hsort := AnyQ.slices_SortFunc tmSort 2 Tryz.isAgg80 Tryz.sizeOf80 encT (fun _ => rfl) (fun x v hv => by simp [encT] at hv; rcases hv with rfl | rfl <;> rfl) (fun x y => Lib.compareInt x.1 y.1) swoT 77 #[] g 0 cap zs.toArray w1 (enters_of Tryz.func77 (by kernel_rfl) rfl) (tcmp_lays g 0 zs.toArray.size w1) hH hglt (by simp; omega)
    change Calls Tryz.prog 85 _ _ _ at hsort
    simp only [List.size_toArray] at hsort
    clear hgc htk
    gi_wp2_with (refine ⟨trivial, ?_⟩; gi_at_call 85; refine (callsIn_wide.2 hsort).mono ?_; rintro e w' ⟨rfl, d', n, os, hp, hs, rfl⟩)
    go_ret
    have hds : d'.size = zs.length := by simpa using hp.1
    have hl' : d'.toList.length = zs.length := by simpa using hds
    have hperm : d'.toList.Perm zs := by
      have h := hp.2.2
      have ht : d'.toList.take zs.length = d'.toList := List.take_of_length_le (by omega)
      simpa [ht] using h
    have hH' := holdsK_sortWorldK_c encT 2 w1 g 0 zs.toArray d' n os hH hglt (by simpa using hds)
    refine ⟨_, d'.toList, rfl, hperm, ?_, hb.trans (sort_below w1 g n d' os _ hg hb.size), .inr ⟨g, cap, by rw [hl']; rfl, by omega, hcm, hg, Nat.lt_of_lt_of_le hglt (size_sortWorldK_c _ _ _ _ _ _ _ _), ?_⟩⟩
    · rw [List.pairwise_iff_getElem]
      intro i j hi hj hij
      have h := hs i j (Nat.zero_le _) hij (by omega)
      rw [ltT] at h
      have hi' : i < d'.size := by omega
      have hj' : j < d'.size := by omega
      simp only [decide_eq_false_iff_not, Int.not_lt] at h
      simpa [hi', hj'] using h
    · intro j u hu
      have hj : j < d'.toList.length * 2 := by rw [← flT_len]; exact (List.getElem?_eq_some_iff.1 hu).1
      have h1 := flT_get d'.toList j hj
      rw [hu] at h1
      have hj2 : j < d'.size * 2 := by simpa using hj
      have h2 := (hH' j (by simpa [flatK] using hj2)).1
      rw [Nat.zero_add] at h2
      rw [h2]
      simp only [Option.some.injEq] at h1
      subst h1
      simp [flatK, hj2]
end Go.Proofs.YtngphcdhdllnnaaGreat
end
section
/- slices.Values, slices.SortedFunc at terms: contracts over E. -/
set_option linter.unusedVariables false
set_option linter.unusedSimpArgs false
set_option maxRecDepth 10000
open Go Go.Proofs.YtngphcdhdllnnaaGreat.E Go.Proofs
namespace Go.Proofs.YtngphcdhdllnnaaGreat.E.M
open Go.Proofs.YtngphcdhdllnnaaGreat Go.RowKit Go.Shelf
theorem slices_Values_c {n : Nat} {cs : List AV} : Fn Tryz.prog 76 [.sl n cs] [] (fun q _ => q = .clo 86 [.fptr [.sl n cs]]) := by
  refine Fn.ofCallsF fun ρ F w vs hv hF => ?_
  simp only [VRs] at hv
  obtain ⟨v, rest, rfl, hv1, rfl⟩ := hv
  have hv1' := hv1
  simp only [VR] at hv1'
  obtain ⟨base, cap, us, rfl, h1, h2, h3, h4, h5, h6⟩ := hv1'
  refine (callsIn_wide (n := 1)).1 ((tvals_in _ 1 trivial rfl base n cap w).mono ?_)
  rintro e w' ⟨rfl, rfl⟩
  have hb : Below w.heap.size w (w.alloc (.cells #[.slice base n cap] 81)) := (Below.refl _ w).alloc (Nat.le_refl _) _
  refine ⟨_, _, rfl, rfl, hb, ?_⟩
  have hB := Boxed.new w 81 (.slice base n cap)
  have h0 : VR (fun _ => none) F w (.sl n cs) (.slice base n cap) := by simpa only [VR] using hv1
  have hk : VR (fun _ => none) (fun b => F b ∨ (w.heap.size ≤ b ∧ b < (w.alloc (.cells #[.slice base n cap] 81)).heap.size)) (w.alloc (.cells #[.slice base n cap] 81)) (.sl n cs) (.slice base n cap) :=
    VR.keep (fun _ h => .inl h) (fun b off v hb' hc => (hb.cell (p := ⟨b, off, none⟩) (hF b hb')).trans hc) (fun _ _ h => by cases h) _ _ h0
  have hp : VR (fun _ => none) (fun b => F b ∨ (w.heap.size ≤ b ∧ b < (w.alloc (.cells #[.slice base n cap] 81)).heap.size)) (w.alloc (.cells #[.slice base n cap] 81)) (.fptr [.sl n cs]) (.pointer (some ⟨w.heap.size, 0, none⟩)) := by
    rw [VR]
    refine ⟨⟨w.heap.size, 0, none⟩, [.slice base n cap], rfl, rfl, ⟨_, [], rfl, hk, rfl⟩, .inr ⟨_, _, rfl, .inr ⟨Nat.le_refl _, by simp⟩, ?_⟩⟩
    intro i v hv
    match i, hv with
    | 0, hv => simp at hv; subst hv; exact ⟨hB.cell, rfl⟩
  rw [VR]
  exact ⟨[.pointer (some ⟨w.heap.size, 0, none⟩)], rfl, _, [], rfl, hp, rfl⟩

abbrev tmA (x : Int × Int) : List AV := [.val (.int .i64 x.1), .val (.int .u64 x.2)]
theorem flT_cons (x : Int × Int) (xs : List (Int × Int)) : flT (x :: xs) = .int .i64 x.1 :: .int .u64 x.2 :: flT xs := by simp [flT]
theorem flT_of {ρ : Rho} {F : Nat → Prop} {w : World} : ∀ {zs : List (Int × Int)} {vs : List Value}, VRs ρ F w (fm tmA zs) vs → vs = flT zs
  | [], vs, h => by simp only [fm, VRs] at h; subst h; rfl
  | x :: xs, vs, h => by
    simp only [fm, tmA, List.cons_append, List.nil_append, VRs, VR] at h
    obtain ⟨v, r, rfl, rfl, v', r', rfl, rfl, h⟩ := h
    rw [flT_of h, flT_cons]
theorem of_flT {ρ : Rho} {F : Nat → Prop} {w : World} : ∀ (zs : List (Int × Int)), VRs ρ F w (fm tmA zs) (flT zs)
  | [] => by simp [fm, VRs, flT]
  | x :: xs => by
    simp only [fm, tmA, List.cons_append, List.nil_append, VRs, VR, flT_cons]
    exact ⟨_, _, rfl, rfl, _, _, rfl, rfl, of_flT xs⟩
theorem flT_one : ∀ (zs : List (Int × Int)) (v : Value), v ∈ flT zs → v.oneCell' = true := by
  intro zs v hv
  simp only [flT, List.mem_flatMap] at hv
  obtain ⟨x, _, h⟩ := hv
  simp at h
  rcases h with rfl | rfl <;> rfl

theorem slices_SortedFunc_c {zs : List (Int × Int)} (hl : zs.length * 16 ≤ 140737488351232) :
    Fn Tryz.prog 75 [.clo 86 [.fptr [.sl zs.length (fm tmA zs)]], .clo 77 []] []
      (fun q _ => ∃ zs' : List (Int × Int), q = .sl zs'.length (fm tmA zs') ∧ zs'.Perm zs ∧ zs'.Pairwise (fun a b : Int × Int => a.1 ≤ b.1)) := by
  refine Fn.ofCallsF fun ρ F w vs hv hF => ?_
  simp only [VRs, VR] at hv
  obtain ⟨_, _, rfl, ⟨vs1, rfl, p, r1, rfl, ⟨a, us, rfl, hsp, ⟨sv, _, rfl, ⟨base, cap, ts, rfl, hn, hcm, hts, hfz, hb0, hb1⟩, rfl⟩, hfa⟩, rfl⟩, _, _, rfl, ⟨_, rfl, rfl⟩, rfl⟩ := hv
  have hts' := flT_of hts
  subst hts'
  rcases hfa with h | ⟨b, off, hab, hFb, hcb⟩
  · cases h
  · obtain rfl : a = ⟨b, off, none⟩ := by simpa using hab
    have hc := (hcb 0 _ rfl).1
    have hI : Terms w.heap.size w (.slice base zs.length cap) zs := by
      rcases Nat.eq_zero_or_pos zs.length with h0 | h0
      · left
        exact ⟨base, cap, by rw [h0], List.eq_nil_of_length_eq_zero h0⟩
      · rcases hfz with h | ⟨b', off', rfl, hFb', hcb'⟩
        · have := congrArg List.length h
          rw [flT_len] at this; simp at this; omega
        · right
          refine ⟨b', off', cap, rfl, hF b' hFb', fun j hj => ?_⟩
          have e1 := (hcb' (j * 2) _ (flT_get zs (j * 2) (by omega))).1
          have e2 := (hcb' (j * 2 + 1) _ (flT_get zs (j * 2 + 1) (by omega))).1
          have d1 : (j * 2) / 2 = j := by omega
          have d2 : (j * 2) % 2 = 0 := by omega
          have d3 : (j * 2 + 1) / 2 = j := by omega
          have d4 : (j * 2 + 1) % 2 = 1 := by omega
          rw [d1, d2] at e1
          rw [d3, d4] at e2
          refine ⟨?_, ?_⟩
          · rw [e1]; simp [encT, hj]
          · rw [Nat.add_assoc, e2]; simp [encT, hj]
    refine (tsof_c b off w.heap.size _ zs hl w (hF b hFb) (Nat.le_refl _) hc hI).mono ?_
    rintro e w' ⟨v, zs', rfl, hp, hs, hbel, hv⟩
    refine ⟨v, _, rfl, ⟨zs', rfl, hp, hs⟩, hbel, ?_⟩
    rw [VR]
    rcases hv with ⟨rfl, rfl⟩ | ⟨g, cap', rfl, h1, h2, h3, h4, h5⟩
    · exact ⟨none, 0, [], rfl, Nat.le_refl _, by simp [maxLen], by simp [fm, VRs], .inl rfl, fun _ => rfl, fun _ h => by cases h⟩
    · exact ⟨_, cap', flT zs', rfl, h1, h2, of_flT zs', .inr ⟨g, 0, rfl, .inr ⟨h3, h4⟩, fun i v hv => ⟨by rw [Nat.zero_add]; exact h5 i v hv, flT_one _ _ (List.mem_of_getElem? hv)⟩⟩, (fun h => by cases h), fun a ha _ => by cases ha; rfl⟩
end Go.Proofs.YtngphcdhdllnnaaGreat.E.M
end
section
/- slices.IndexFunc and slices.DeleteFunc at terms: contracts over E. -/
set_option linter.unusedVariables false
set_option linter.unusedSimpArgs false
set_option maxRecDepth 10000
open Go Go.Proofs.YtngphcdhdllnnaaGreat.E Go.Proofs
namespace Go.Proofs.YtngphcdhdllnnaaGreat.E.M
def idxT (p : Tm → Bool) : List Tm → Nat → Int
  | [], _ => -1
  | v :: l, k => if p v then k else idxT p l (k + 1)
theorem tm_at {L : List Tm} {n : Nat} {g : Tm} (h : L[n]? = some g) : (fm tm L).drop (n * 2) = i g.v :: u g.k :: fm tm (L.drop (n + 1)) := by
  have hl := (List.getElem?_eq_some_iff.1 h).1
  have := fm_at tm_len hl
  rw [List.getElem?_eq_getElem hl] at h
  rw [Option.some.inj h] at this
  exact this
set_option maxHeartbeats 1000000 in
theorem rank_Sum_2_c {v k : Int} : Fn Tryz.prog 80 [.agg [i v, u k]] [] (fun r h_ => r = bo (k == 0)) := by
  refine Fn.enter Tryz.func80 Tryz.ntmps80 rfl (h := ?_)
  have tf := tfr
  have ot_ : (false || true) = true := rfl
  have tfr := tfr
  repeat refine AW.seq ?_
  refine AW.reg ?_
  iterate 2 refine AOL.s1 (h := ?_)
  refine AOL.nil ?_
  refine AW.kq [1] (h := ?_)
  repeat refine AW.seq ?_
  refine AW.reg ?_
  iterate 4 refine AOL.s1 (h := ?_)
  refine AOL.nil ?_
  refine AW.kq [2] (h := ?_)
  repeat refine AW.seq ?_
  refine AW.ret ?_
  refine ⟨_, [], rfl, HOk.nil _, ?_⟩
  simp only [one?]
set_option maxHeartbeats 4000000 in
theorem slices_IndexFunc_api_Term_api_Term_c {V : List Tm} {g : FuncId} {p : Tm → Bool} (lV : V.length < 1000000000) (hcl : callable Tryz.prog g = true) (hg : ∀ v, Fn Tryz.prog g [.agg (tm v)] [] (fun r _ => r = bo (p v))) : Fn Tryz.prog 88 [slF tm V, .clo g []] [] (fun r h_ => r = i (idxT p V 0)) := by
  refine Fn.enter Tryz.func88 Tryz.ntmps88 rfl (h := ?_)
  have tf := tfr
  have ot_ : (false || true) = true := rfl
  have tfr := tfr
  repeat refine AW.seq ?_
  refine AW.reg ?_
  iterate 1 refine AOL.s1 (h := ?_)
  refine AOL.nil ?_
  refine AW.kq [0, 1] (h := ?_)
  repeat refine AW.seq ?_
  refine AW.reg ?_
  iterate 3 refine AOL.s1 (h := ?_)
  refine AOL.nil ?_
  refine AW.kq [0, 1, 7, 8] (h := ?_)
  repeat refine AW.seq ?_
  refine AW.block ?_
  repeat refine AW.seq ?_
  refine AW.loopK [0, 1, 7, 8] (fun n s => ∃ (k : Nat), s = ⟨19, [(0, slF tm V), (1, .clo g []), (7, i V.length), (8, i k)], []⟩ ∧ k ≤ V.length ∧ n = V.length - k ∧ idxT p (V.drop k) k = idxT p V 0) (V.length) ?_ ?_
  · exact ⟨0, rfl, Nat.zero_le _, rfl, rfl⟩
  rintro n s ⟨k, rfl, hkl, rfl, hi⟩
  repeat refine AW.seq ?_
  refine AW.reg ?_
  iterate 1 refine AOL.s1 (h := ?_)
  refine AOL.nil ?_
  refine AW.kq [0, 1, 7, 8, 9] (h := ?_)
  repeat refine AW.seq ?_
  refine AW.cond rfl (fun d_ => ?_) (fun d_ => ?_)
  · have h1 : k < V.length := by have : (k:Int) < V.length := by simpa using d_
                                 omega
    have hg' : V[k]? = some V[k] := List.getElem?_eq_getElem h1
    have hgd := tm_at hg'
    have k0 : (0:Int) ≤ k := by omega
    have k1 : (k:Int) < V.length := by omega
    have hw := incq h1 lV
    have cg := hg V[k]
    have hi : (if p V[k] then (k:Int) else idxT p (V.drop (k + 1)) (k + 1)) = idxT p V 0 := by
      rw [← hi, List.drop_eq_getElem_cons h1]
      simp only [idxT]
    clear hg' d_
    generalize V[k] = a at *
    obtain ⟨a0, a1⟩ := a
    refine AW.skip ?_
    repeat refine AW.seq ?_
    refine AW.block ?_
    repeat refine AW.seq ?_
    refine AW.reg ?_
    iterate 2 refine AOL.s1 (h := ?_)
    refine AOL.nil ?_
    refine AW.kq [0, 1, 5, 7, 8] (h := ?_)
    repeat refine AW.seq ?_
    refine AW.reg ?_
    iterate 5 refine AOL.s1 (h := ?_)
    refine AOL.callD rfl cg hcl rfl rfl (h := ?_)
    refine AOL.nil ?_
    refine AW.kq [0, 1, 5, 7, 8, 16] (h := ?_)
    repeat refine AW.seq ?_
    refine AW.cond rfl (fun e_ => ?_) (fun e_ => ?_)
    · have hf : idxT p V 0 = k := by rw [← hi, if_pos e_]
      repeat refine AW.seq ?_
      refine AW.reg ?_
      iterate 2 refine AOL.s1 (h := ?_)
      refine AOL.nil ?_
      refine AW.kq [4] (h := ?_)
      repeat refine AW.seq ?_
      refine AW.ret ?_
      refine ⟨_, [], rfl, HOk.nil _, ?_⟩
      simp only [one?, hf]
    have hf : idxT p (V.drop (k + 1)) (k + 1) = idxT p V 0 := by rw [← hi, if_neg (by rw [e_]; decide)]
    refine AW.skip ?_
    repeat refine AW.seq ?_
    refine AW.reg ?_
    iterate 2 refine AOL.s1 (h := ?_)
    refine AOL.nil ?_
    exact ⟨V.length - (k + 1), by omega, _, rfl, h1, rfl, hf⟩
  · have hf : idxT p V 0 = -1 := by
      have : k = V.length := by have : ¬ (k:Int) < V.length := by simpa using d_
                                omega
      subst this
      rw [List.drop_length] at hi
      exact hi.symm
    repeat refine AW.seq ?_
    refine AW.exit ?_
    repeat (first | refine Kseq.ex ?_ | refine Kloop.ex ?_ | refine Kblock.miss (by decide) ?_)
    refine Kblock.hit ?_
    refine AW.kq [] (h := ?_)
    repeat refine AW.seq ?_
    refine AW.reg ?_
    iterate 1 refine AOL.s1 (h := ?_)
    refine AOL.nil ?_
    refine AW.kq [4] (h := ?_)
    repeat refine AW.seq ?_
    refine AW.ret ?_
    refine ⟨_, [], rfl, HOk.nil _, ?_⟩
    simp only [one?, hf]
def kept (p : Tm → Bool) (L : List Tm) : List Tm := L.filter fun t => !p t
theorem kept_snoc (p : Tm → Bool) {L : List Tm} {j : Nat} (hj : j < L.length) : kept p (L.take (j + 1)) = if p L[j] then kept p (L.take j) else kept p (L.take j) ++ [L[j]] := by
  unfold kept
  rw [List.take_add_one, List.getElem?_eq_getElem hj, List.filter_append]
  cases h : p L[j] <;> simp [h]
theorem spl_tm (K M D : List Tm) (m a : Tm) : splice (K.length * 2) [i a.v, u a.k] (fm tm (K ++ (m :: M) ++ D)) = fm tm (K ++ [a] ++ M ++ D) := by
  have hk := fm_len tm_len K
  simp only [splice, fm_app, fm, List.append_nil, List.append_assoc]
  rw [List.take_append_of_le_length (by omega), List.take_of_length_le (by omega)]
  rw [show K.length * 2 + [i a.v, u a.k].length = (fm tm K).length + 2 by rw [hk]; rfl, List.drop_append]
  simp
theorem idx_none (p : Tm → Bool) : ∀ (L : List Tm) (k : Nat), idxT p L k = -1 → kept p L = L
  | [], _, _ => rfl
  | t :: l, k, h => by
    simp only [idxT] at h
    split at h
    · omega
    · rename_i hp
      simp only [kept, List.filter_cons]
      simp only [Bool.not_eq_true] at hp
      simp only [hp, Bool.not_false, if_true]
      rw [show List.filter (fun t => !p t) l = l from idx_none p l (k + 1) h]
theorem idx_some (p : Tm → Bool) : ∀ (L : List Tm) (k : Nat), idxT p L k ≠ -1 → ∃ j, idxT p L k = ((k + j : Nat) : Int) ∧ j < L.length ∧ kept p (L.take j) = L.take j ∧ (∀ h : j < L.length, p L[j] = true)
  | [], _, h => absurd rfl h
  | t :: l, k, h => by
    simp only [idxT] at h ⊢
    split
    · rename_i hp
      exact ⟨0, rfl, by simp, rfl, fun _ => hp⟩
    · rename_i hp
      rw [if_neg hp] at h
      obtain ⟨j, h1, h2, h3, h4⟩ := idx_some p l (k + 1) h
      refine ⟨j + 1, by rw [h1]; congr 1; omega, by simp; omega, ?_, fun _ => by simpa using h4 h2⟩
      simp only [Bool.not_eq_true] at hp
      simp only [kept, List.take_succ_cons, List.filter_cons, hp, Bool.not_false, if_true]
      rw [show List.filter (fun t => !p t) (l.take j) = l.take j from h3]
set_option maxHeartbeats 4000000 in
theorem slices_DeleteFunc_api_Term_api_Term_c {L : List Tm} {g : FuncId} {p : Tm → Bool} (lV : L.length < 1000000000) (hcl : callable Tryz.prog g = true) (hg : ∀ v, Fn Tryz.prog g [.agg (tm v)] [] (fun r _ => r = bo (p v))) : Fn Tryz.prog 79 [.ref 0 0 L.length 2, .clo g []] [(0, ⟨80, false, fm tm L⟩)] (fun r h_ => r = slF tm (kept p L) ∧ h_ = []) := by
  refine Fn.enter Tryz.func79 Tryz.ntmps79 rfl (h := ?_)
  have tf := tfr
  have ot_ : (false || true) = true := rfl
  have tfr := tfr
  have cI : Fn Tryz.prog 88 [.sl L.length (sub 0 (L.length * 2) (fm tm L)), .clo g []] [] (fun r _ => r = i (idxT p L 0)) := by
    rw [sub_all (by rw [fm_len tm_len]; exact Nat.le_refl _)]; exact slices_IndexFunc_api_Term_api_Term_c lV hcl hg
  repeat refine AW.seq ?_
  refine AW.reg ?_
  iterate 1 refine AOL.s1 (h := ?_)
  refine AOL.nil ?_
  refine AW.kq [0, 1] (h := ?_)
  repeat refine AW.seq ?_
  refine AW.reg ?_
  iterate 2 refine AOL.s1 (h := ?_)
  refine AOL.callB (st1 := ⟨0, [], []⟩) [(0, fm tm L)] (by intro p hp; simp only [List.mem_singleton] at hp; subst hp; exact ⟨_, rfl, rfl, fun h => by cases h⟩) rfl cI (by kernel_rfl) rfl (h := ?_)
  iterate 1 refine AOL.s1 (h := ?_)
  refine AOL.nil ?_
  refine AW.kq [0, 1, 5] (h := ?_)
  repeat refine AW.seq ?_
  refine AW.reg ?_
  iterate 2 refine AOL.s1 (h := ?_)
  refine AOL.nil ?_
  refine AW.kq [0, 1, 5, 12] (h := ?_)
  repeat refine AW.seq ?_
  refine AW.cond rfl (fun c_ => ?_) (fun c_ => ?_)
  · have hn := idx_none p L 0 (by simpa using c_)
    repeat refine AW.seq ?_
    refine AW.reg ?_
    iterate 2 refine AOL.s1 (h := ?_)
    refine AOL.nil ?_
    refine AW.kq [4] (h := ?_)
    refine AW.fz 0 rfl (fun h => by cases h) (h := ?_)
    repeat refine AW.seq ?_
    refine AW.ret ?_
    refine ⟨_, [], rfl, HOk.nil _, ?_⟩
    refine ⟨?_, rfl⟩
    simp only [one?, hn, sub_all (show (fm tm L).length ≤ L.length * 2 by rw [fm_len tm_len]; exact Nat.le_refl _)]
  obtain ⟨q, hq1, hq2, hq3, hq4⟩ := idx_some p L 0 (by simpa using c_)
  rw [Nat.zero_add] at hq1
  rw [hq1]
  clear c_ hq1
  have q1 : q < 1000000000 := by omega
  have hwq := incq hq2 lV
  have hdec : id (L.take q ++ [L[q]] ++ L.drop (q + 1) = L) := by
    show _ = _
    rw [List.append_assoc, List.singleton_append, ← List.drop_eq_getElem_cons hq2, List.take_append_drop]
  have hlen : id ((L.take q).length = q) := by show _ = _; rw [List.length_take]; omega
  have hk0 : id (L.take q = kept p (L.take (q + 1))) := by show _ = _; rw [kept_snoc p hq2, if_pos (hq4 hq2), hq3]
  clear hq3 hq4
  refine AW.skip ?_
  repeat refine AW.seq ?_
  refine AW.reg ?_
  iterate 3 refine AOL.s1 (h := ?_)
  refine AOL.nil ?_
  refine AW.kq [0, 1, 5, 6] (h := ?_)
  repeat refine AW.seq ?_
  refine AW.block ?_
  repeat refine AW.seq ?_
  refine AW.loopK [0, 1, 5, 6] (fun n s => ∃ (j : Nat) (K M : List Tm), s = ⟨42, [(0, .ref 0 0 L.length 2), (1, .clo g []), (5, i K.length), (6, i j)], [(0, ⟨80, false, fm tm (K ++ M ++ L.drop j)⟩)]⟩ ∧ j ≤ L.length ∧ n = L.length - j ∧ K.length + M.length = j ∧ id (K = kept p (L.take j)) ∧ 0 < M.length) (L.length - (q + 1)) ?_ ?_
  · exact ⟨q + 1, L.take q, [L[q]], by rw [show _ = _ from hdec, show _ = _ from hlen], hq2, rfl, by rw [show _ = _ from hlen]; rfl, hk0, by simp⟩
  rintro n s ⟨j, K, M, rfl, hjl, rfl, hKM, hK, hM⟩
  repeat refine AW.seq ?_
  refine AW.reg ?_
  iterate 4 refine AOL.s1 (h := ?_)
  refine AOL.nil ?_
  refine AW.kq [0, 1, 5, 6, 19] (h := ?_)
  repeat refine AW.seq ?_
  refine AW.cond rfl (fun d_ => ?_) (fun d_ => ?_)
  · have h1 : j < L.length := by have : (j:Int) < L.length := by simpa using d_
                                 omega
    have hgj : (K ++ M ++ L.drop j)[j]? = some L[j] := by
      rw [List.getElem?_append_right (by simp; omega), List.getElem?_drop]
      simp only [List.length_append]
      rw [show j + (j - (K.length + M.length)) = j by omega, List.getElem?_eq_getElem h1]
    have hgd := tm_at hgj
    have k0 : (0:Int) ≤ j := by omega
    have k1 : (j:Int) < L.length := by omega
    have hw := incq h1 lV
    have cg := hg L[j]
    have hkn := kept_snoc p h1
    have hdj := List.drop_eq_getElem_cons h1
    replace hkn : id (kept p (L.take (j + 1)) = if p L[j] then kept p (L.take j) else kept p (L.take j) ++ [L[j]]) := hkn
    replace hdj : id (L.drop j = L[j] :: L.drop (j + 1)) := hdj
    clear hgj d_
    generalize L[j] = a at *
    obtain ⟨a0, a1⟩ := a
    refine AW.skip ?_
    repeat refine AW.seq ?_
    refine AW.block ?_
    repeat refine AW.seq ?_
    refine AW.reg ?_
    iterate 6 refine AOL.s1 (h := ?_)
    refine AOL.nil ?_
    refine AW.kq [0, 1, 5, 6, 7] (h := ?_)
    repeat refine AW.seq ?_
    refine AW.reg ?_
    iterate 2 refine AOL.s1 (h := ?_)
    refine AOL.callD rfl cg hcl rfl rfl (h := ?_)
    iterate 1 refine AOL.s1 (h := ?_)
    refine AOL.nil ?_
    refine AW.kq [0, 1, 5, 6, 7, 29] (h := ?_)
    repeat refine AW.seq ?_
    refine AW.cond rfl (fun e_ => ?_) (fun e_ => ?_)
    · have hp : p ⟨a0, a1⟩ = false := by simpa using e_
      replace hkn : id (kept p (L.take (j + 1)) = K ++ [⟨a0, a1⟩]) := by
        show _ = _
        rw [show _ = _ from hkn, hp, show _ = _ from hK]; rfl
      obtain ⟨m, M, rfl⟩ : ∃ m M', M = m :: M' := by
        cases M with
        | nil => simp at hM
        | cons m M' => exact ⟨m, M', rfl⟩
      simp only [List.length_cons] at hKM
      have spl : id ((fm tm (K ++ (m :: M) ++ L.drop j)).take (K.length * 2) ++ [i a0, u a1] ++ (fm tm (K ++ (m :: M) ++ L.drop j)).drop (K.length * 2 + 2) = fm tm (K ++ [⟨a0, a1⟩] ++ M ++ L.drop j)) := spl_tm K M _ m ⟨a0, a1⟩
      have lc : (fm tm (K ++ (m :: M) ++ L.drop j)).length = L.length * 2 := by
        rw [fm_len tm_len]; simp only [List.length_append, List.length_cons, List.length_drop]; congr 1; omega
      have kk1 : (K.length:Int) < L.length := by omega
      have kk0 : (0:Int) ≤ K.length := by omega
      have b2 : K.length * 2 + 2 ≤ L.length * 2 := by omega
      have hwk := incq (show K.length < L.length by omega) lV
      clear hgd cg e_ hp hK hM
      repeat refine AW.seq ?_
      refine AW.reg ?_
      iterate 5 refine AOL.s1 (h := ?_)
      refine AOL.nil ?_
      refine AW.kq [0, 1, 5, 6] (h := ?_)
      repeat refine AW.seq ?_
      refine AW.reg ?_
      iterate 3 refine AOL.s1 (h := ?_)
      refine AOL.nil ?_
      repeat refine AW.seq ?_
      refine AW.let 1112 (h := ?_)
      refine AW.reg ?_
      iterate 3 refine AOL.s1 (h := ?_)
      refine AOL.nil ?_
      refine ⟨L.length - (j + 1), by omega, j + 1, K ++ [⟨a0, a1⟩], M ++ [⟨a0, a1⟩], ?_, h1, rfl, by simp only [List.length_append, List.length_singleton]; omega, by show _ = _; exact (show _ = _ from hkn).symm, by simp⟩
      have e1 : K ++ [(⟨a0, a1⟩ : Tm)] ++ (M ++ [⟨a0, a1⟩]) ++ L.drop (j + 1) = K ++ [⟨a0, a1⟩] ++ M ++ L.drop j := by rw [show _ = _ from hdj]; simp only [List.append_assoc, List.cons_append, List.nil_append]
      have e2 : (K ++ [(⟨a0, a1⟩ : Tm)]).length = K.length + 1 := by simp
      rw [e1, e2, ← show _ = _ from spl]; rfl
    · have hp : p ⟨a0, a1⟩ = true := by simpa using e_
      replace hkn : id (kept p (L.take (j + 1)) = K) := by
        show _ = _
        rw [show _ = _ from hkn, hp, show _ = _ from hK]; rfl
      clear hgd cg e_ hp hK
      refine AW.skip ?_
      repeat refine AW.seq ?_
      refine AW.let 1112 (h := ?_)
      refine AW.reg ?_
      iterate 3 refine AOL.s1 (h := ?_)
      refine AOL.nil ?_
      refine ⟨L.length - (j + 1), by omega, j + 1, K, M ++ [⟨a0, a1⟩], ?_, h1, rfl, by simp only [List.length_append, List.length_singleton]; omega, by show _ = _; exact (show _ = _ from hkn).symm, by simp⟩
      have e1 : K ++ (M ++ [⟨a0, a1⟩]) ++ L.drop (j + 1) = K ++ M ++ L.drop j := by rw [show _ = _ from hdj]; simp only [List.append_assoc, List.cons_append, List.nil_append]
      rw [e1]; rfl
  · have hj : j = L.length := by have : ¬ (j:Int) < L.length := by simpa using d_
                                 omega
    subst hj
    rw [List.take_of_length_le (Nat.le_refl _)] at hK
    have kl : K.length ≤ L.length := by omega
    have lc : (fm tm (K ++ M ++ L.drop L.length)).length = L.length * 2 := by
      rw [fm_len tm_len]; simp only [List.length_append, List.length_drop]; congr 1; omega
    have s1 : ∀ H, aSlice Tryz.prog 81 H (.ref 0 0 L.length 2) (some (i K.length)) none none = some (.ref 0 (K.length * 2) (L.length - K.length) 2) := fun H => by
      have c1 : (0:Int) ≤ K.length := by omega
      have c2 : (K.length:Int) ≤ L.length := by omega
      simp only [aSlice, tf, bnd, intOf?, c1, c2, and_self, true_and, if_true, Int.le_refl, Int.toNat_natCast, Nat.zero_add]
    have s2 : ∀ H, aSlice Tryz.prog 81 H (.ref 0 0 L.length 2) none (some (i K.length)) none = some (.ref 0 0 K.length 2) := fun H => by
      have c1 : (0:Int) ≤ K.length := by omega
      have c2 : (K.length:Int) ≤ L.length := by omega
      simp only [aSlice, tf, bnd, intOf?, c1, c2, and_self, true_and, if_true, Int.le_refl, Int.toNat_natCast, Int.toNat_zero, Nat.zero_mul, Nat.zero_add, Nat.sub_zero]
    have hT : sub 0 (K.length * 2) ((fm tm (K ++ M ++ L.drop L.length)).take (K.length * 2) ++ (zRow [.int .i64 0, .int .u64 0] (L.length - K.length)).map AV.val ++ (fm tm (K ++ M ++ L.drop L.length)).drop (K.length * 2 + (L.length - K.length) * 2)) = fm tm K := by
      have hk := fm_len tm_len K
      have : (fm tm (K ++ M ++ L.drop L.length)).take (K.length * 2) = fm tm K := by
        rw [List.append_assoc, fm_app, List.take_append_of_le_length (by omega), List.take_of_length_le (by omega)]
      rw [this]
      simp only [sub, List.drop_zero, List.append_assoc]
      rw [List.take_append_of_le_length (by omega), List.take_of_length_le (by omega)]
    clear d_
    repeat refine AW.seq ?_
    refine AW.exit ?_
    repeat (first | refine Kseq.ex ?_ | refine Kloop.ex ?_ | refine Kblock.miss (by decide) ?_)
    refine Kblock.hit ?_
    refine AW.kq [0, 5] (h := ?_)
    repeat refine AW.seq ?_
    refine AW.reg ?_
    iterate 3 refine AOL.s1 (h := ?_)
    refine AOL.clr (zs := [.int .i64 0, .int .u64 0]) (e := 80) rfl (by kernel_rfl) (by kernel_rfl) rfl (by intro v hv; simp at hv; rcases hv with rfl | rfl <;> rfl) rfl (by rw [lc]; omega) rfl (h := ?_)
    refine AOL.nil ?_
    refine AW.kq [0, 5] (h := ?_)
    repeat refine AW.seq ?_
    refine AW.reg ?_
    iterate 4 refine AOL.s1 (h := ?_)
    refine AOL.nil ?_
    refine AW.kq [4] (h := ?_)
    refine AW.fz 0 rfl (fun h => by cases h) (h := ?_)
    repeat refine AW.seq ?_
    refine AW.ret ?_
    refine ⟨_, [], rfl, HOk.nil _, ?_⟩
    refine ⟨?_, rfl⟩
    rw [← show K = kept p L from hK]
    simp only [one?, hT]
end Go.Proofs.YtngphcdhdllnnaaGreat.E.M
end
section
/- rank.Sum: a contract over E. -/
set_option linter.unusedVariables false
set_option linter.unusedSimpArgs false
set_option maxRecDepth 10000
open Go Go.Proofs.YtngphcdhdllnnaaGreat.E Go.Proofs
namespace Go.Proofs.YtngphcdhdllnnaaGreat.E.M
def prT (t : Tm) : Int × Int := (t.v, t.k)
def unT (x : Int × Int) : Tm := ⟨x.1, x.2⟩
theorem fm_pr : ∀ (L : List Tm), fm tmA (L.map prT) = fm tm L
  | [] => rfl
  | t :: l => by simp only [List.map_cons, fm, fm_pr l]; rfl
theorem fm_un : ∀ (L : List (Int × Int)), fm tm (L.map unT) = fm tmA L
  | [] => rfl
  | t :: l => by simp only [List.map_cons, fm, fm_un l]; rfl
theorem un_pr (L : List Tm) : (L.map prT).map unT = L := by
  rw [List.map_map]
  exact List.map_id'' (fun t => rfl) L
theorem sorted_c {L : List Tm} (hl : L.length < 1000000000) :
    Fn Tryz.prog 75 [.clo 86 [.fptr [slF tm L]], .clo 77 []] []
      (fun q _ => ∃ S : List Tm, q = slF tm S ∧ S.Perm L ∧ S.Pairwise (fun a b : Tm => a.v ≤ b.v)) := by
  have h := slices_SortedFunc_c (zs := L.map prT) (by rw [List.length_map]; omega)
  rw [fm_pr, List.length_map] at h
  refine h.mono ?_
  rintro r h_ ⟨zs', rfl, hp, hs⟩
  refine ⟨zs'.map unT, by rw [slF, fm_un, List.length_map], ?_, ?_⟩
  · have := hp.map unT
    rwa [un_pr] at this
  · rw [List.pairwise_map]
    exact hs

theorem fm_snoc {f : Tm → List AV} (l : List Tm) (t : Tm) : fm f (l ++ [t]) = fm f l ++ f t := by rw [fm_app]; simp only [fm, List.append_nil]
theorem set_tm (l : List Tm) (t : Tm) (k : Int) : (fm tm (l ++ [t])).set (l.length * 2 + 1) (u k) = fm tm (l ++ [⟨t.v, k⟩]) := by
  rw [fm_snoc, fm_snoc, List.set_append_right _ _ (by rw [fm_len tm_len]; omega), fm_len tm_len]
  rw [show l.length * 2 + 1 - l.length * 2 = 1 by omega]; rfl
theorem tm_free (L : List Tm) : frees (fm tm L) = true := frees_fm (f := tm) (fun _ => rfl) L
theorem tm_labs (L : List Tm) : labss (fm tm L) = [] := labss_free _ (tm_free L)
theorem tm_rens (s : Nat → Nat) (L : List Tm) : rens s (fm tm L) = fm tm L := rens_free s (tm_free L)
set_option maxHeartbeats 4000000 in
theorem rank_Sum_c {L : List Tm} (hl : L.length < 1000000000) (hT : wT L) : Fn Tryz.prog 64 [slF tm L] [] (fun r _ => r = slF tm (sumT L)) := by
  have hV : Fn Tryz.prog 76 [slF tm L] [] (fun q _ => q = .clo 86 [.fptr [slF tm L]]) := slices_Values_c
  have hS := sorted_c hl
  refine Fn.enter Tryz.func64 Tryz.ntmps64 rfl (h := ?_)
  have tf := tfr
  have ot_ : (false || true) = true := rfl
  repeat refine AW.seq ?_
  refine AW.reg ?_
  iterate 1 refine AOL.s1 (h := ?_)
  refine AOL.nil ?_
  refine AW.kq [0] (h := ?_)
  repeat refine AW.seq ?_
  refine AW.reg ?_
  iterate 1 refine AOL.s1 (h := ?_)
  refine AOL.callD rfl (hV) (by kernel_rfl) rfl rfl (h := ?_)
  refine AOL.call rfl hS (by kernel_rfl) rfl ?_
  rintro q h_ ⟨S, rfl, hp, hs⟩
  refine ⟨rfl, ?_⟩
  have hST : wT S := fun t ht => hT t (hp.mem_iff.1 ht)
  have lS : S.length < 1000000000 := by rw [hp.length_eq]; exact hl
  rw [← accS_eq hp hs]
  clear hp hs hT hl hS hV
  iterate 1 refine AOL.s1 (h := ?_)
  refine AOL.nil ?_
  refine AW.kq [3] (h := ?_)
  repeat refine AW.seq ?_
  refine AW.reg ?_
  iterate 1 refine AOL.s1 (h := ?_)
  refine AOL.nil ?_
  refine AW.kq [3, 4] (h := ?_)
  refine AW.born 4 1001 80 2 (.inl rfl) (h := ?_)
  repeat refine AW.seq ?_
  refine AW.reg ?_
  iterate 3 refine AOL.s1 (h := ?_)
  refine AOL.nil ?_
  refine AW.kq [3, 4, 11, 12, 13] (h := ?_)
  repeat refine AW.seq ?_
  refine AW.block ?_
  repeat refine AW.seq ?_
  refine AW.loopK [3, 4, 11, 12, 13] (fun n s => ∃ (k : Nat) (p : Option Int) (out r : List Tm), s = ⟨58, [(3, slF tm S), (4, .ref 1001 0 out.length 2), (11, slF tm S), (12, i S.length), (13, i k)], [(1001, ⟨80, false, fm tm out⟩)]⟩ ∧ S.drop k = r ∧ k ≤ S.length ∧ n = r.length ∧ id (accS p out r = accS none [] S) ∧ out.length ≤ k ∧ wT out ∧ (k = 0 → p = none) ∧ (∀ j t, k = j + 1 → S[j]? = some t → p = some t.v) ∧ (∀ v, p = some v → 0 ≤ v → out ≠ [])) S.length ?_ ?_
  · exact ⟨0, none, [], S, rfl, rfl, Nat.zero_le _, rfl, rfl, Nat.le_refl _, (fun t ht => by cases ht), fun _ => rfl, fun j t h => by omega, fun v h => by cases h⟩
  rintro n s ⟨k, p, out, r, rfl, hr, hkl, rfl, hi, hol, hwo, hp0, hp1, hpo⟩
  repeat refine AW.seq ?_
  refine AW.reg ?_
  iterate 1 refine AOL.s1 (h := ?_)
  refine AOL.nil ?_
  refine AW.kq [3, 4, 11, 12, 13, 14] (h := ?_)
  repeat refine AW.seq ?_
  refine AW.cond rfl (fun c_ => ?_) (fun c_ => ?_)
  · cases r with
    | nil => have := dnilq hr hkl; simp at c_; omega
    | cons t r =>
    obtain ⟨hlt, hr', ht⟩ := dconsq hr
    have hd : (fm tm S).drop (k * 2) = i t.v :: u t.k :: fm tm r := fm_drop tm_len hr
    have k0 : (0:Int) ≤ k := by omega
    have k1 : (k:Int) < S.length := by omega
    have hw := incq hlt lS
    have hkw := hST t (List.mem_of_getElem? ht)
    have hn1 : ∀ j s, k + 1 = j + 1 → S[j]? = some s → some t.v = some s.v := by
      intro j s h1 h2
      obtain rfl : j = k := by omega
      rw [ht] at h2; cases h2; rfl
    clear hr
    refine AW.skip ?_
    repeat refine AW.seq ?_
    refine AW.midK [3, 4, 11, 12, 13] (fun s => ∃ (out' : List Tm), s = ⟨58, [(3, slF tm S), (4, .ref 1001 0 out'.length 2), (11, slF tm S), (12, i S.length), (13, i k)], [(1001, ⟨80, false, fm tm out'⟩)]⟩ ∧ id (accS (some t.v) out' r = accS none [] S) ∧ out'.length ≤ k + 1 ∧ wT out' ∧ (0 ≤ t.v → out' ≠ [])) ?_ ?_
    · refine AW.block ?_
      repeat refine AW.seq ?_
      refine AW.reg ?_
      iterate 6 refine AOL.s1 (h := ?_)
      refine AOL.nil ?_
      refine AW.kq [3, 4, 5, 6, 11, 12, 13] (h := ?_)
      repeat refine AW.seq ?_
      refine AW.reg ?_
      iterate 3 refine AOL.s1 (h := ?_)
      refine AOL.nil ?_
      refine AW.kq [3, 4, 5, 6, 11, 12, 13, 20] (h := ?_)
      repeat refine AW.seq ?_
      refine AW.cond rfl (fun c_ => ?_) (fun c_ => ?_)
      · have hi' : id (accS (some t.v) out r = accS none [] S) := by
          rw [← show _ = _ from hi]; show _ = _; simp only [accS]; rw [if_pos (by simpa using c_)]
        repeat refine AW.seq ?_
        refine AW.let 1096 (h := ?_)
        refine AW.exit ?_
        repeat (first | refine Kseq.ex ?_ | refine Kloop.ex ?_ | refine Kblock.miss (by decide) ?_)
        refine Kblock.hit ?_
        exact ⟨out, rfl, hi', by omega, hwo, fun h => by simp at c_; omega⟩
      have t0 : 0 ≤ t.v := by simpa using c_
      have hi' : id (accS (some t.v) (addL t.k (if p = some t.v then out else out ++ [⟨t.v, 0⟩])) r = accS none [] S) := by
        rw [← show _ = _ from hi]; show _ = _; simp only [accS]; rw [if_neg (show ¬ t.v < 0 by omega)]
      clear hi c_
      refine AW.skip ?_
      repeat refine AW.seq ?_
      refine AW.midK [3, 4, 6, 11, 12, 13, 33] (fun s => s = ⟨58, [(3, slF tm S), (4, .ref 1001 0 out.length 2), (6, .ptr 1096 0), (11, slF tm S), (12, i S.length), (13, i k), (33, bo (!decide (p = some t.v)))], [(1001, ⟨80, false, fm tm out⟩), (1096, ⟨80, true, [i t.v, u t.k]⟩)]⟩) ?_ ?_
      · rcases Nat.eq_zero_or_pos k with rfl | hpos
        · have hz : decide (p = some t.v) = false := by rw [hp0 rfl]; simp
          rw [hz]
          clear hi' hz
          refine AW.drw 11 [] (by kernel_rfl) (h := ?_)
          iterate 11 refine ADL.dm 1 (h := ?_)
          refine ADL.done hmix rfl rfl (hT := ?_)
          iterate 2 refine AOL.s1 (h := ?_)
          refine AOL.nil ?_
          exact rfl
        · obtain ⟨j, rfl⟩ : ∃ j, k = j + 1 := ⟨k - 1, by omega⟩
          have hj : j < S.length := by omega
          have hq := hp1 j S[j] rfl (List.getElem?_eq_getElem hj)
          have hq2 : (fm tm S).drop (j * 2) = i S[j].v :: u S[j].k :: fm tm (S.drop (j + 1)) := fm_at tm_len hj
          have j0 : (((j + 1 : Nat) : Int) == 0) = false := by rw [beq_eq_false_iff_ne]; omega
          have jw : IntKind.i64.wrap (((j + 1 : Nat) : Int) - 1) = (j : Int) := by rw [wrapI_o (by omega) (by omega)]; omega
          have j1 : (0:Int) ≤ j := by omega
          have j2 : (j:Int) < S.length := by omega
          have hz : (!decide (p = some t.v)) = (S[j].v != t.v) := by
            rw [hq]; by_cases h : S[j].v = t.v <;> simp [h]
          rw [hz]
          clear hi' hz hq hp1 hp0 hpo hn1 hd
          generalize S[j] = q at *
          refine AW.drw 11 [] (by kernel_rfl) (h := ?_)
          iterate 11 refine ADL.dm 1 (h := ?_)
          refine ADL.done hmix rfl rfl (hT := ?_)
          iterate 2 refine AOL.s1 (h := ?_)
          refine AOL.nil ?_
          exact rfl
      rintro t_ rfl
      repeat refine AW.seq ?_
      refine AW.midK [3, 4, 6, 11, 12, 13] (fun s => ∃ (l : List Tm) (z : Tm), s = ⟨58, [(3, slF tm S), (4, .ref 1001 0 (l ++ [z]).length 2), (6, .ptr 1096 0), (11, slF tm S), (12, i S.length), (13, i k)], [(1001, ⟨80, false, fm tm (l ++ [z])⟩), (1096, ⟨80, true, [i t.v, u t.k]⟩)]⟩ ∧ id ((if p = some t.v then out else out ++ [⟨t.v, 0⟩]) = l ++ [z]) ∧ l.length ≤ k ∧ wT l ∧ w64 z.k) ?_ ?_
      · refine AW.cond rfl (fun c_ => ?_) (fun c_ => ?_)
        · have c1 : ¬ p = some t.v := by simpa using c_
          have lc : (fm tm out).length = out.length * 2 := fm_len tm_len out
          have a1 : (out.length + 1) * 16 ≤ 140737488355328 := by omega
          have a2 : out.length + 1 ≤ 4611686018427387904 := by omega
          have a3 : out.length ≤ 4611686018427387903 := by omega
          clear hi'
          repeat refine AW.seq ?_
          refine AW.reg ?_
          iterate 7 refine AOL.s1 (h := ?_)
          refine AOL.let 1608 (h := ?_)
          refine AOL.nil ?_
          refine ⟨out, ⟨t.v, 0⟩, ?_, if_neg c1, hol, hwo, by show w64 0; decide⟩
          rw [fm_snoc, List.length_append]; rfl
        · have c1 : p = some t.v := by simpa using c_
          refine AW.skip ?_
          have hne := hpo t.v c1 t0
          obtain ⟨l, z, rfl⟩ : ∃ l z, out = l ++ [z] := ⟨out.dropLast, out.getLast hne, (List.dropLast_concat_getLast hne).symm⟩
          refine ⟨l, z, rfl, if_pos c1, ?_, fun a ha => hwo a (List.mem_append_left _ ha), hwo z (by simp)⟩
          rw [List.length_append] at hol; simp at hol; omega
      rintro s_ ⟨l, z, rfl, he, hl, hwl, hwz⟩
      have ll : (l ++ [z]).length = l.length + 1 := by simp
      have lw : IntKind.i64.wrap (((l.length + 1 : Nat) : Int) - 1) = (l.length : Int) := by rw [wrapI_o (by omega) (by omega)]; omega
      have l0 : (0:Int) ≤ l.length := by omega
      have l1 : (l.length:Int) < (l.length + 1 : Nat) := by omega
      rw [ll]
      repeat refine AW.seq ?_
      refine AW.reg ?_
      iterate 6 refine AOL.s1 (h := ?_)
      refine AOL.nil ?_
      refine AW.kq [3, 4, 6, 7, 11, 12, 13] (h := ?_)
      have cA := modular_Add_c hR hwz hkw
      have hdz : (fm tm (l ++ [z])).drop (l.length * 2 + 1) = [u z.k] := by
        rw [fm_snoc, List.drop_append, fm_len tm_len, List.drop_of_length_le (by rw [fm_len tm_len]; omega), show l.length * 2 + 1 - l.length * 2 = 1 by omega]; rfl
      have lz : l.length * 2 + 1 + 1 ≤ (fm tm (l ++ [z])).length := by rw [fm_len tm_len, ll]; omega
      have hst := set_tm l z ((z.k + t.k) % 288230376287764481)
      rw [show _ = _ from he, addL_snoc] at hi'
      clear he hd
      repeat refine AW.seq ?_
      refine AW.drw 8 [] (by kernel_rfl) (h := ?_)
      iterate 7 refine ADL.dm 1 (h := ?_)
      refine ADL.call rfl (cA) (by kernel_rfl) rfl rfl (h := ?_)
      refine ADL.done hmix rfl rfl (hT := ?_)
      iterate 3 refine AOL.s1 (h := ?_)
      refine AOL.let 1096 (h := ?_)
      refine AOL.nil ?_
      exact ⟨l ++ [⟨z.v, (z.k + t.k) % 288230376287764481⟩], by rw [← hst]; simp only [List.length_append, List.length_singleton]; rfl, hi', by simp; omega, by
        intro a ha
        rcases List.mem_append.1 ha with ha | ha
        · exact hwl a ha
        · simp only [List.mem_singleton] at ha; subst ha; exact w64_r _, fun _ => by simp⟩
    rintro s_ ⟨out', rfl, hi', hol', hwo', hne⟩
    repeat refine AW.seq ?_
    refine AW.reg ?_
    iterate 2 refine AOL.s1 (h := ?_)
    refine AOL.nil ?_
    exact ⟨r.length, by simp, k + 1, some t.v, out', r, rfl, hr', hlt, rfl, hi', hol', hwo', fun h => by omega, hn1, fun v hv h0 => by cases hv; exact hne h0⟩
  · have : r = [] := by
      cases r with
      | nil => rfl
      | cons t r => have := (dconsq hr).1; simp at c_; omega
    subst this
    have hg : accS none [] S = out := hi.symm
    rw [hg]
    clear hi hr hp0 hp1 hpo hg
    have cD : Fn Tryz.prog 79 [.ref 0 0 out.length 2, .clo 80 []] [(0, ⟨80, false, fm tm out⟩)] (Tells (slF tm (kept0 out)) []) :=
      (slices_DeleteFunc_api_Term_api_Term_c (p := fun t => t.k == 0) (by omega) (by kernel_rfl) (fun v => rank_Sum_2_c)).mono (by rintro r h ⟨rfl, rfl⟩; exact Tells.self)
    repeat refine AW.seq ?_
    refine AW.exit ?_
    repeat (first | refine Kseq.ex ?_ | refine Kloop.ex ?_ | refine Kblock.miss (by decide) ?_)
    refine Kblock.hit ?_
    refine AW.kq [4] (h := ?_)
    repeat refine AW.seq ?_
    refine AW.reg ?_
    iterate 1 refine AOL.s1 (h := ?_)
    refine AOL.callT [1001] 2000 cD rfl rfl (by kernel_rfl) (by simp [labs, labss]) (by intro p hp; simp only [List.mem_singleton] at hp; subst hp; exact ⟨Nat.zero_lt_one, (by intro l hl; simp only [tm_labs] at hl; cases hl), (by simp only [renB, tm_rens]; rfl)⟩) ⟨by simp, by simp, by simp [labs], by simp, by simp [hlabs]⟩ (by simp only [St.after, consumed, newNames, get?, putH, St.drops, St.drop, mapT, mapH, kill, kills, del, St.put, ins, ren, rens, reduceIte, Nat.reduceLT, Nat.reduceEqDiff, List.cons_append, List.nil_append]; exact rfl) ?_
    iterate 1 refine AOL.s1 (h := ?_)
    refine AOL.nil ?_
    refine AW.kq [2] (h := ?_)
    repeat refine AW.seq ?_
    refine AW.ret ?_
    refine ⟨_, [], rfl, HOk.nil _, ?_⟩
    simp only [one?]
end Go.Proofs.YtngphcdhdllnnaaGreat.E.M
end
section
/- Whether values hold for a system: a contract over E. -/
set_option linter.unusedVariables false
set_option linter.unusedSimpArgs false
set_option maxRecDepth 10000
open Go Go.Proofs.YtngphcdhdllnnaaGreat.E Go.Proofs
namespace Go.Proofs.YtngphcdhdllnnaaGreat.E.M
abbrev spot (k n : Int) : AV := .ifc 97 (.fptr [i k, er n])
def rowsH (V : List Int) : Nat → List Rw → AV
  | _, [] => nil_
  | k, r :: l => if valF V 0 r.a * valF V 0 r.b % 288230376287764481 = valF V 0 r.c then rowsH V (k + 1) l else spot k 8
def greatF (V : List Int) : Bool := V.any fun v => decide (v ≥ 288230376287764481)
def holdsF (s : Rk) (V : List Int) : AV := if chkF s then (if (V.length : Int) ≠ s.v ∨ V.head? ≠ some 1 ∨ greatF V = true then er 1 else rowsH V 0 s.l) else er 3
abbrev wR (s : Rk) : Prop := ∀ r ∈ s.l, wT r.a ∧ wT r.b ∧ wT r.c
theorem chk_v {s : Rk} (h : chkF s = true) : 1 ≤ s.v ∧ s.v ≤ 4096 ∧ 0 ≤ s.p ∧ s.p < s.v := by
  unfold chkF at h
  split at h
  · cases h
  · rename_i hb
    simp [badF] at hb
    omega
set_option maxHeartbeats 8000000 in
theorem rank_Holds_c {s : Rk} {V : List Int} (hS : Len s) (hW : wR s) (hV : wV V) (lV : V.length < 1000000000) : Fn Tryz.prog 22 [.agg (rk s), ul V] [] (fun r h_ => r = holdsF s V) := by
  refine Fn.enter Tryz.func22 Tryz.ntmps22 rfl (h := ?_)
  have tf := tfr
  have ot_ : (false || true) = true := rfl
  obtain ⟨sv, sp, sl_⟩ := s
  have cC := rank_Check_c hS
  have hG : Fn Tryz.prog 47 [ul V, .clo 48 []] [] (fun r _ => r = bo (greatF V)) := slices_ContainsFunc_uint64_uint64_c lV hV (by kernel_rfl) (fun v _ => rank_Holds_1_c)
  unfold holdsF
  cases hc : chkF ⟨sv, sp, sl_⟩ with
  | false =>
    rw [hc] at cC
    have cC : Fn Tryz.prog 46 [.agg (rk ⟨sv, sp, sl_⟩)] [] (fun r _ => r = er 3) := cC
    repeat refine AW.seq ?_
    refine AW.reg ?_
    iterate 2 refine AOL.s1 (h := ?_)
    refine AOL.nil ?_
    refine AW.kq [1, 2] (h := ?_)
    repeat refine AW.seq ?_
    refine AW.reg ?_
    iterate 1 refine AOL.s1 (h := ?_)
    refine AOL.callD rfl (cC) (by kernel_rfl) rfl rfl (h := ?_)
    iterate 1 refine AOL.s1 (h := ?_)
    refine AOL.nil ?_
    refine AW.kq [1, 2, 5] (h := ?_)
    repeat refine AW.seq ?_
    refine AW.reg ?_
    iterate 2 refine AOL.s1 (h := ?_)
    refine AOL.nil ?_
    refine AW.kq [1, 2, 5, 11] (h := ?_)
    repeat refine AW.seq ?_
    refine AW.cond rfl (fun c_ => ?_) (fun c_ => ?_)
    · repeat refine AW.seq ?_
      refine AW.reg ?_
      iterate 2 refine AOL.s1 (h := ?_)
      refine AOL.nil ?_
      refine AW.kq [4] (h := ?_)
      repeat refine AW.seq ?_
      refine AW.ret ?_
      refine ⟨_, [], rfl, HOk.nil _, ?_⟩
      rfl
    cases c_
  | true =>
  rw [hc] at cC
  have cC : Fn Tryz.prog 46 [.agg (rk ⟨sv, sp, sl_⟩)] [] (fun r _ => r = nil_) := cC
  obtain ⟨v1, v2, _, _⟩ := chk_v hc
  simp only at v1 v2
  rw [if_pos rfl]
  cases V with
  | nil =>
    rw [if_pos (.inl (by simp only [List.length_nil]; omega))]
    have hne : decide (((0 : Nat) : Int) ≠ sv) = true := by simp; omega
    have hne2 : (((0 : Nat) : Int) != sv) = true := by simp; omega
    repeat refine AW.seq ?_
    refine AW.reg ?_
    iterate 2 refine AOL.s1 (h := ?_)
    refine AOL.nil ?_
    refine AW.kq [1, 2] (h := ?_)
    repeat refine AW.seq ?_
    refine AW.reg ?_
    iterate 1 refine AOL.s1 (h := ?_)
    refine AOL.callD rfl (cC) (by kernel_rfl) rfl rfl (h := ?_)
    iterate 1 refine AOL.s1 (h := ?_)
    refine AOL.nil ?_
    refine AW.kq [1, 2, 5] (h := ?_)
    repeat refine AW.seq ?_
    refine AW.reg ?_
    iterate 2 refine AOL.s1 (h := ?_)
    refine AOL.nil ?_
    refine AW.kq [1, 2, 5, 11] (h := ?_)
    repeat refine AW.seq ?_
    refine AW.cond rfl (fun c_ => ?_) (fun c_ => ?_)
    · cases c_
    refine AW.skip ?_
    repeat refine AW.seq ?_
    refine AW.reg ?_
    iterate 6 refine AOL.s1 (h := ?_)
    iterate 5 refine AOL.s1 (h := ?_)
    iterate 4 refine AOL.s1 (h := ?_)
    refine AOL.nil ?_
    refine AW.kq [1, 2, 27] (h := ?_)
    repeat refine AW.seq ?_
    refine AW.cond rfl (fun d_ => ?_) (fun d_ => ?_)
    · repeat refine AW.seq ?_
      refine AW.reg ?_
      iterate 2 refine AOL.s1 (h := ?_)
      refine AOL.nil ?_
      refine AW.kq [4] (h := ?_)
      repeat refine AW.seq ?_
      refine AW.ret ?_
      refine ⟨_, [], rfl, HOk.nil _, ?_⟩
      rfl
    cases d_
  | cons v0 V' =>
  have hh0 : (v0 :: V').head? = some v0 := rfl
  have hd0 : (fm u1 (v0 :: V')).head? = some (u v0) := rfl
  have l0 : (0:Int) < (v0 :: V').length := by simp only [List.length_cons]; omega
  have z0 : (0:Int) ≤ 0 := by decide
  generalize v0 :: V' = V at *
  repeat refine AW.seq ?_
  refine AW.reg ?_
  iterate 2 refine AOL.s1 (h := ?_)
  refine AOL.nil ?_
  refine AW.kq [1, 2] (h := ?_)
  repeat refine AW.seq ?_
  refine AW.reg ?_
  iterate 1 refine AOL.s1 (h := ?_)
  refine AOL.callD rfl (cC) (by kernel_rfl) rfl rfl (h := ?_)
  iterate 1 refine AOL.s1 (h := ?_)
  refine AOL.nil ?_
  refine AW.kq [1, 2, 5] (h := ?_)
  repeat refine AW.seq ?_
  refine AW.reg ?_
  iterate 2 refine AOL.s1 (h := ?_)
  refine AOL.nil ?_
  refine AW.kq [1, 2, 5, 11] (h := ?_)
  repeat refine AW.seq ?_
  refine AW.cond rfl (fun b_ => ?_) (fun b_ => ?_)
  · cases b_
  refine AW.skip ?_
  repeat refine AW.seq ?_
  refine AW.reg ?_
  iterate 6 refine AOL.s1 (h := ?_)
  refine AOL.kq [1, 2, 18] (h := ?_)
  refine AOL.or 18 23 (os' := ?_) (x := ?_) (h1 := ?_) (h0 := ?_) (h := ?_)
  rotate_left 2
  iterate 2
    · intro hb_ K' hK; (iterate 5 refine AOL.s1 (h := ?_)); refine AOL.kq [1, 2, 23] (h := ?_); exact hK
  iterate 1 refine AOL.s1 (h := ?_)
  refine AOL.kq [1, 2, 24] (h := ?_)
  refine AOL.or 24 27 (os' := ?_) (x := ?_) (h1 := ?_) (h0 := ?_) (h := ?_)
  rotate_left 2
  iterate 2
    · intro hb_ K' hK; (first | (iterate 3 refine AOL.s1 (h := ?_)) | ((iterate 1 refine AOL.s1 (h := ?_)); refine AOL.callD rfl (hG) (by kernel_rfl) rfl rfl (h := ?_); (iterate 1 refine AOL.s1 (h := ?_)))); refine AOL.kq [1, 2, 27] (h := ?_); exact hK
  refine AOL.nil ?_
  refine AW.kq [1, 2, 27] (h := ?_)
  repeat refine AW.seq ?_
  refine AW.cond rfl (fun d_ => ?_) (fun d_ => ?_)
  · rw [if_pos (by
      simp only [Bool.or_eq_true] at d_
      rcases d_ with (h | h) | h
      · exact .inl (by simpa using h)
      · exact .inr (.inl (by rw [hh0]; simpa using h))
      · exact .inr (.inr h))]
    repeat refine AW.seq ?_
    refine AW.reg ?_
    iterate 2 refine AOL.s1 (h := ?_)
    refine AOL.nil ?_
    refine AW.kq [4] (h := ?_)
    repeat refine AW.seq ?_
    refine AW.ret ?_
    refine ⟨_, [], rfl, HOk.nil _, ?_⟩
    rfl
  rw [if_neg (by
    simp only [Bool.or_eq_false_iff] at d_
    obtain ⟨⟨h1, h2⟩, h3⟩ := d_
    rintro (h | h | h)
    · simp only [decide_eq_false_iff_not, Decidable.not_not, bne_eq_false_iff_eq] at h1; exact h h1
    · simp only [decide_eq_false_iff_not, Decidable.not_not, bne_eq_false_iff_eq] at h2; exact h (by rw [hh0, h2])
    · rw [h3] at h; cases h)]
  clear d_ hG hd0 l0 cC
  have hl := hS.1
  simp only at hl
  have hS2 := hS.2
  simp only at hS2
  have hW2 : ∀ r ∈ sl_, wT r.a ∧ wT r.b ∧ wT r.c := hW
  refine AW.skip ?_
  repeat refine AW.seq ?_
  refine AW.reg ?_
  iterate 4 refine AOL.s1 (h := ?_)
  refine AOL.nil ?_
  refine AW.kq [1, 30, 31, 32] (h := ?_)
  repeat refine AW.seq ?_
  refine AW.block ?_
  repeat refine AW.seq ?_
  refine AW.let 1032 (h := ?_)
  refine AW.loopK [1, 30, 31, 32] (fun n s => ∃ (k : Nat) (r : List Rw), s = ⟨57, [(1, ul V), (30, slF rw_ sl_), (31, i sl_.length), (32, i k)], []⟩ ∧ sl_.drop k = r ∧ k ≤ sl_.length ∧ n = r.length ∧ rowsH V k r = rowsH V 0 sl_) (sl_.length) ?_ ?_
  · exact ⟨0, sl_, rfl, rfl, Nat.zero_le _, rfl, rfl⟩
  rintro n s ⟨k, r, rfl, hr, hkl, rfl, hi⟩
  repeat refine AW.seq ?_
  refine AW.reg ?_
  iterate 1 refine AOL.s1 (h := ?_)
  refine AOL.nil ?_
  refine AW.kq [1, 30, 31, 32, 33] (h := ?_)
  repeat refine AW.seq ?_
  refine AW.cond rfl (fun e_ => ?_) (fun e_ => ?_)
  · obtain ⟨t, r, rfl⟩ := ends_cons hr hkl (by simpa using e_)
    obtain ⟨hlt, hr', ht⟩ := dconsq hr
    have hd : (fm rw_ sl_).drop (k * 3) = slF tm t.a :: slF tm t.b :: slF tm t.c :: fm rw_ r := fm_drop rw_len hr
    have k0 : (0:Int) ≤ k := by omega
    have k1 : (k:Int) < sl_.length := by omega
    have hw := incq hlt hl
    obtain ⟨la, lb, lc⟩ := hS2 t (List.mem_of_getElem? ht)
    obtain ⟨wa, wb, wc⟩ := hW2 t (List.mem_of_getElem? ht)
    have ca := rank_Value_c la hV wa
    have cb := rank_Value_c lb hV wb
    have cc := rank_Value_c lc hV wc
    have za := valF_w (V := V) t.a (out := 0) (by decide)
    have zb := valF_w (V := V) t.b (out := 0) (by decide)
    simp only [rowsH] at hi
    clear hr ht hS hW hS2 hW2 e_ la lb lc wa wb wc hV hc
    generalize valF V 0 t.a = xa at *
    generalize valF V 0 t.b = xb at *
    generalize valF V 0 t.c = xc at *
    refine AW.skip ?_
    repeat refine AW.seq ?_
    refine AW.block ?_
    repeat refine AW.seq ?_
    refine AW.reg ?_
    iterate 6 refine AOL.s1 (h := ?_)
    refine AOL.nil ?_
    refine AW.kq [1, 6, 7, 30, 31, 32] (h := ?_)
    repeat refine AW.seq ?_
    refine AW.drw 12 [] (by kernel_rfl) (h := ?_)
    iterate 3 refine ADL.dm 1 (h := ?_)
    refine ADL.call rfl (ca) (by kernel_rfl) rfl rfl (h := ?_)
    iterate 3 refine ADL.dm 1 (h := ?_)
    refine ADL.call rfl (cb) (by kernel_rfl) rfl rfl (h := ?_)
    refine ADL.call rfl (modular_Mul_c hR za zb) (by kernel_rfl) rfl rfl (h := ?_)
    iterate 3 refine ADL.dm 1 (h := ?_)
    refine ADL.done hmix rfl rfl (hT := ?_)
    refine AOL.callD rfl (cc) (by kernel_rfl) rfl rfl (h := ?_)
    iterate 1 refine AOL.s1 (h := ?_)
    refine AOL.nil ?_
    refine AW.kq [1, 6, 30, 31, 32, 50] (h := ?_)
    repeat refine AW.seq ?_
    refine AW.cond rfl (fun f_ => ?_) (fun f_ => ?_)
    · have hf : rowsH V 0 sl_ = spot k 8 := by rw [← hi, if_neg (by simpa using f_)]
      rw [hf]
      repeat refine AW.seq ?_
      refine AW.reg ?_
      iterate 6 refine AOL.s1 (h := ?_)
      refine AOL.nil ?_
      refine AW.kq [4] (h := ?_)
      refine AW.fz 1864 rfl (fun _ => rfl) (h := ?_)
      repeat refine AW.seq ?_
      refine AW.ret ?_
      refine ⟨_, [], rfl, HOk.nil _, ?_⟩
      rfl
    have hf : rowsH V (k + 1) r = rowsH V 0 sl_ := by rw [← hi, if_pos (by simpa using f_)]
    refine AW.skip ?_
    repeat refine AW.seq ?_
    refine AW.let 1112 (h := ?_)
    refine AW.reg ?_
    iterate 2 refine AOL.s1 (h := ?_)
    refine AOL.nil ?_
    exact ⟨r.length, by simp, _, r, rfl, hr', hlt, rfl, hf⟩
  · obtain rfl := ends_nil hr (by simpa using e_)
    have hg : rowsH V 0 sl_ = nil_ := hi.symm
    clear hi hr
    rw [hg]
    repeat refine AW.seq ?_
    refine AW.exit ?_
    repeat (first | refine Kseq.ex ?_ | refine Kloop.ex ?_ | refine Kblock.miss (by decide) ?_)
    refine Kblock.hit ?_
    refine AW.kq [] (h := ?_)
    repeat refine AW.seq ?_
    refine AW.reg ?_
    iterate 1 refine AOL.s1 (h := ?_)
    refine AOL.nil ?_
    refine AW.kq [4] (h := ?_)
    repeat refine AW.seq ?_
    refine AW.ret ?_
    refine ⟨_, [], rfl, HOk.nil _, ?_⟩
    rfl
end Go.Proofs.YtngphcdhdllnnaaGreat.E.M
end
