/- E, a reader of Go's code as the model has it: a contract of a function is proved over values that are told without memory (EK). -/
import Derived.Test.YtjeafkodcmbabaaDoorEJ


set_option linter.unusedVariables false
set_option linter.unusedSimpArgs false
open Go
namespace Go.Proofs.YtjeafkodcmbabaaDoor.E
set_option linter.unusedVariables false
set_option linter.unusedSimpArgs false
/-- A contract that was proved otherwise, whose result may stand in blocks that the call has laid, which are not written any more. -/
theorem Fn.ofCallsF {P : Program} {f : FuncId} {as : List AV} {R : AV → Prop}
    (h : ∀ ρ F w (vs : List Value), VRs ρ F w as vs → (∀ b, F b → b < w.heap.size) → Calls P f vs.toArray w fun e w' => ∃ v r, e = .returned v ∧ R r ∧ Go.RowKit.Below w.heap.size w w' ∧ VR (fun _ => none) (fun b => F b ∨ (w.heap.size ≤ b ∧ b < w'.heap.size)) w' r v) :
    Fn P f as [] (fun q _ => R q) := by
  intro ρ F w vs hh hv
  refine (h ρ F w vs hv hh.flt).mono ?_
  rintro e w' ⟨v, r, rfl, hR, hb, hr⟩
  refine ⟨v, ρ, fun b => F b ∨ (w.heap.size ≤ b ∧ b < w'.heap.size), r, [], rfl, hR, VR.keep (fun _ h => h) (fun _ _ _ _ h => h) (fun _ _ h => by cases h) _ _ hr, ⟨by simp, hh.inj, ?_, fun l r m hl => Nat.lt_of_lt_of_le (hh.lt l r m hl) hb.size, ?_, fun k v hk => ⟨.inl (hh.glb k v hk).1, (glb_below hh.glb hh.flt hb.block k v hk).2⟩⟩, ?_⟩
  · rintro l b m hl (hF | ⟨h1, _⟩)
    · exact hh.apart l b m hl hF
    · have := hh.lt l b m hl; omega
  · rintro b (hF | ⟨_, h2⟩)
    · exact Nat.lt_of_lt_of_le (hh.flt b hF) hb.size
    · exact h2
  exact { os := hb.os, tape := hb.tape, output := hb.output, size := hb.size, block := fun k hk _ => hb.block k hk, froz := fun _ h => .inl h
          froz' := fun b hb' => by rcases hb' with h | ⟨h, _⟩; exact .inl h; exact .inr (.inr h)
          own := fun l r m h => .inl ⟨l, m, h⟩
          same := fun l _ x y h h' => by rw [h] at h'; exact Option.some.inj h'
          gone := fun _ _ h => h }
end Go.Proofs.YtjeafkodcmbabaaDoor.E

namespace Go.Proofs.YtjeafkodcmbabaaDoor.E
set_option linter.unusedVariables false
set_option linter.unusedSimpArgs false
/-! ## clear(s) of a slice of an own block -/
def zRow (zs : List Value) (n : Nat) : List Value := (Builtin.zeroCells zs.toArray n).toList
theorem zRow_len (zs : List Value) (n : Nat) : (zRow zs n).length = n * zs.length := by simp [zRow, Builtin.zeroCells]
theorem zRow_mem {zs : List Value} {n : Nat} {v : Value} (h : v ∈ zRow zs n) : v ∈ zs := by
  simp only [zRow, Builtin.zeroCells, Array.toList_map, List.mem_map, Array.mem_toList_iff, Array.mem_range] at h
  obtain ⟨i, hi, rfl⟩ := h
  have hp : 0 < zs.length := by
    rcases Nat.eq_zero_or_pos zs.length with h | h
    · simp [h] at hi
    · exact h
  have hlt : i % zs.length < zs.length := Nat.mod_lt _ hp
  simp [hlt]
theorem aClear_run {P : Program} {ρ F st a w} (hR : Rel ρ F st a w) {t ty e l off n z : Nat} {zs : List Value} {y : Value} {B : Blk} (hx : VR ρ F w (.ref l off n z) y)
    (he : P.underlying t = some (.slice e)) (h0 : tZero P e = some zs) (hz : zs.length = z) (h1 : ∀ v ∈ zs, v.oneCell' = true) (hB : get? l st.h = some B) (hin : off + n * z ≤ B.cs.length) :
    ∃ w', (Builtin.clear_ #[t] ty #[y]).run P w = .ok (.tuple #[]) w' ∧ Rel ρ F { st with h := ins l { B with cs := B.cs.take off ++ (zRow zs n).map AV.val ++ B.cs.drop (off + n * z) } st.h } a w' ∧ Fr ρ F w ρ F w' := by
  obtain ⟨v0, hv0, hv0c⟩ := run_tZero (w := w) h0
  have hsame : Rel ρ F { st with h := ins l { B with cs := B.cs.take off ++ (zRow zs 0).map AV.val ++ B.cs.drop (off + 0 * z) } st.h } a w := by
    have e0 : (zRow zs 0).map AV.val = [] := by simp [zRow, Builtin.zeroCells]
    rw [e0, Nat.zero_mul, Nat.add_zero, List.append_nil, List.take_append_drop]
    have hh : HRel ρ F (ins l B st.h) w := by
      refine ⟨fun k C hC => ?_, hR.heap.inj, hR.heap.apart, hR.heap.lt, hR.heap.flt, hR.heap.glb⟩
      rcases mem_ins hC with e1 | ⟨hC, _⟩
      · cases e1; exact hR.heap.blk _ _ (get?_mem hB)
      · exact hR.heap.blk _ _ hC
    exact ⟨hh, hR.size, hR.defers, hR.tmps⟩
  simp only [VR] at hx
  rcases hx with ⟨r, M, cap, hlr, rfl, hn, hM, hcm⟩ | ⟨rfl, base, rfl⟩
  · cases n with
    | zero => exact ⟨w, by simp [Builtin.clear_, run_und he, Result.andThen], hsame, Fr.refl _ _ _⟩
    | succ n =>
      have hul : (zRow zs (n + 1)).length = (n + 1) * z := by rw [zRow_len, hz]
      obtain ⟨w', hr, hR', hF⟩ := hR.splice (P := P) (off := off) (us := zRow zs (n + 1)) (cs := B.cs.take off ++ (zRow zs (n + 1)).map AV.val ++ B.cs.drop (off + (n + 1) * z)) hB hlr (fun u hu => h1 u (zRow_mem hu)) (by rw [hul]; exact hin) (by
        intro vs hvs
        unfold spliceV
        rw [hul]
        refine ((hvs.take off).append ?_).append (hvs.drop _)
        exact vals_rel _)
      refine ⟨w', ?_, hR', hF⟩
      have hv0a : v0.cells = zs.toArray := by rw [← hv0c]
      have hr' : (storeCells ⟨r, off, none⟩ (Builtin.zeroCells v0.cells (n + 1)).toList).run P w = .ok () w' := by rw [hv0a]; exact hr
      simp [Builtin.clear_, run_und he, Result.andThen, hv0, hr']
  · exact ⟨w, by cases base <;> simp [Builtin.clear_, run_und he, Result.andThen], hsame, Fr.refl _ _ _⟩
def clrL (st : St) (ops : List Oper) (o : Oper) : Option (TypeId × AV) :=
  match o.dst, gOkL ops st o.guard, o.op with
  | none, some true, .call { callee := .builtin .clear, args, argTypes } => match argTypes.toList, args.toList with
    | [t], [x] => (st.eval x).map fun v => (t, v)
    | _, _ => none
  | _, _, _ => none
/-- clear(s): s lies in an own block. -/
theorem AOL.clr {P : Program} {ops : Array Oper} {o : Oper} {os : List Oper} {K : St → Prop} {st st' : St} {t e l off n z : Nat} {zs : List Value} {B : Blk}
    (hc : clrL st ops.toList o = some (t, .ref l off n z)) (he : P.underlying t = some (.slice e)) (h0 : tZero P e = some zs) (hz : zs.length = z) (h1 : ∀ v ∈ zs, v.oneCell' = true)
    (hB : get? l st.h = some B) (hin : off + n * z ≤ B.cs.length)
    (hst : { st with h := ins l { B with cs := B.cs.take off ++ (zRow zs n).map AV.val ++ B.cs.drop (off + n * z) } st.h } = st')
    (h : AOL P ops os K st') : AOL P ops (o :: os) K st := by
  subst hst
  intro i hi
  obtain ⟨ho, hi'⟩ := drop_cons hi
  rw [List.length_cons, List.range'_succ]
  unfold clrL at hc
  split at hc
  · rename_i args argTypes hdst hg hop
    rw [gOkL_eq] at hg
    split at hc
    · rename_i t' x ht hx
      simp only [Option.map_eq_some_iff, Prod.mk.injEq] at hc
      obtain ⟨v, hy, rfl, rfl⟩ := hc
      obtain rfl : argTypes = #[t'] := by rw [← Array.toArray_toList (xs := argTypes), ht]
      obtain rfl : args = #[x] := by rw [← Array.toArray_toList (xs := args), hx]
      intro ρ F a w Q hR hQ
      have hw := gOk_rel hR hg
      have hv := hR.get hy
      obtain ⟨w', hr, hR', hF⟩ := aClear_run (ty := o.type) hR hv he h0 hz h1 hB hin
      simp only [wpOps, ho, hw, if_true]
      refine .inl ?_
      simp [Oper.wp, hop, execOp, resolve, invoke, builtin, hr, Result.andThen, Oper.upon, hdst]
      exact h (i + 1) hi' ρ F _ w' Q (by simpa [Act.put] using hR') fun st' ρ'' F' a' w' hk hr hf => hQ st' ρ'' F' a' w' hk hr (hF.trans hf)
    · cases hc
  · cases hc
end Go.Proofs.YtjeafkodcmbabaaDoor.E

namespace Go.Proofs.YtjeafkodcmbabaaDoor.E
set_option linter.unusedVariables false
set_option linter.unusedSimpArgs false
/-! ## A call that reads own blocks -/
theorem AOL.callF {P : Program} {ops : Array Oper} {o : Oper} {os : List Oper} {K : St → Prop} {st st' : St} {g : FuncId} {as : List AV} {r : AV}
    (hc : callL st ops.toList o = some (g, as)) (hF : CallF P st.h as g r) (hcl : callable P g = true) (hst : st.put o.dst r = st' := by simp only [St.put, ins, del, reduceIte, Nat.reduceLT, Nat.reduceEqDiff]; exact rfl)
    (h : AOL P ops os K st') : AOL P ops (o :: os) K st := by
  subst hst
  intro i hi
  obtain ⟨ho, hi'⟩ := drop_cons hi
  rw [List.length_cons, List.range'_succ]
  intro ρ F a w Q hR hQ
  unfold callL at hc
  split at hc
  · rename_i hd hg
    rw [gOkL_eq] at hg
    obtain ⟨vs, hrun, hvs⟩ := callOf_run hR hc hcl
    have hw := gOk_rel hR hg
    simp only [wpOps, ho, hw, if_true]
    refine .inl ?_
    simp only [Oper.wp, hrun, Oper.upon]
    refine (hF.run hR.heap hvs).mono ?_
    rintro e w' ⟨u, ρ', F', rfl, hvr, hfr', hlt⟩
    obtain ⟨hA, hFr⟩ := hR.ext hfr' hlt
    exact h (i + 1) hi' ρ F' _ w' Q (hA.put (dOk_lt hd) (hvr ρ)) fun st' ρ'' F'' a' w'' h1 h2 h3 => hQ st' ρ'' F'' a' w'' h1 h2 (hFr.trans h3)
  · cases hc
end Go.Proofs.YtjeafkodcmbabaaDoor.E

namespace Go.Proofs.YtjeafkodcmbabaaDoor.E
set_option linter.unusedVariables false
set_option linter.unusedSimpArgs false
/-! ## A slice against nil: it may be either, but a nil one has no elements -/
def nilLen : AV → Option Nat
  | .sl n _ => some n
  | .ref _ _ n _ => some n
  | .emp => some 0
  | _ => none
def nilL (P : Program) (st : St) (ops : List Oper) (o : Oper) : Option Nat :=
  match dOk st.n o.dst, gOkL ops st o.guard, o.op with
  | true, some true, .binOp .eql t x (.const (.slice none 0 0)) _ => match tSlice P t with
    | some _ => (st.eval x).bind nilLen
    | none => none
  | _, _, _ => none
theorem eqSlNil {P : Program} (w : World) (d : Nat) (t e : TypeId) (a : Option Addr) (n c : Nat) (h : P.underlying t = some (.slice e)) :
    (Op.equalIn (d + 1) t (.slice a n c) (.slice none 0 0)).run P w = .ok a.isNone w := by
  cases a <;> simp [Op.equalIn, run_underlying h]
theorem binSlNil {P : Program} (w : World) (t e : TypeId) (a : Option Addr) (n c : Nat) (h : P.underlying t = some (.slice e)) :
    (binOp .eql t (.slice a n c) (.slice none 0 0)).run P w = .ok (.bool a.isNone) w := by
  simp only [binOp]
  simp [Op.equal, Op.maxDepth, eqSlNil w 9999 t e a n c h]
theorem AOL.eqNil {P : Program} {ops : Array Oper} {o : Oper} {os : List Oper} {K : St → Prop} {st : St} {st' : Bool → St} {n : Nat}
    (hc : nilL P st ops.toList o = some n) (hst : ∀ b : Bool, st.put o.dst (.val (.bool b)) = st' b := by intro b; simp only [St.put, ins, del, reduceIte, Nat.reduceLT, Nat.reduceEqDiff]; exact rfl)
    (h : ∀ b : Bool, (b = true → n = 0) → AOL P ops os K (st' b)) : AOL P ops (o :: os) K st := by
  obtain rfl : st' = fun b => st.put o.dst (.val (.bool b)) := funext fun b => (hst b).symm
  intro i hi
  obtain ⟨ho, hi'⟩ := drop_cons hi
  rw [List.length_cons, List.range'_succ]
  unfold nilL at hc
  split at hc
  · rename_i t x _ hd hg hop
    rw [gOkL_eq] at hg
    split at hc
    · rename_i e he
      simp only [Option.bind_eq_some_iff] at hc
      obtain ⟨c, hx, hn⟩ := hc
      have hu := tSlice_u he
      intro ρ F a w Q hR hQ
      have hw := gOk_rel hR hg
      have hv := hR.get hx
      have key : ∃ base n' cap, a.eval x = .slice base n' cap ∧ (base.isNone = true → n = 0) := by
        cases c <;> simp only [nilLen, Option.some.injEq, reduceCtorEq] at hn
        · subst hn
          simp only [VR] at hv
          rcases hv with ⟨r, m, cap, _, e1, _⟩ | ⟨rfl, base, e1⟩
          · exact ⟨_, _, _, e1, fun h => by cases h⟩
          · exact ⟨_, _, _, e1, fun _ => rfl⟩
        · subst hn
          simp only [VR] at hv
          obtain ⟨base, cap, vs, e1, h1, h2, h3, h4, h5, h6⟩ := hv
          exact ⟨_, _, _, e1, fun h => by have := h5 (by cases base <;> simp_all); omega⟩
        · subst hn
          simp only [VR] at hv
          obtain ⟨base, e1⟩ := hv
          exact ⟨_, _, _, e1, fun _ => rfl⟩
      obtain ⟨base, n', cap, e1, e2⟩ := key
      simp only [wpOps, ho, hw, if_true]
      refine .inl ?_
      have hrun : (execOp a.eval o).run P w = .ok (.value (.bool base.isNone)) w := by
        have h1 : ∀ oy, (eqGuard .eql t x oy (.slice base n' cap) (.slice none 0 0)).run P w = .ok () w := fun oy => by simp [eqGuard]
        have h2 := binSlNil w t e base n' cap hu
        have h0 : a.eval (.const (.slice none 0 0)) = .slice none 0 0 := rfl
        simp only [execOp, hop, e1, h0, Sem.run_bind, h1, h2, Result.andThen, Sem.run_pure]
      simp only [Oper.wp, hrun, Oper.upon]
      exact h _ e2 (i + 1) hi' ρ F _ w Q (hR.put (dOk_lt hd) (by simp only [VR])) fun st' ρ'' F'' a' w'' h1 h2 h3 => hQ st' ρ'' F'' a' w'' h1 h2 h3
    · cases hc
  · cases hc
/-! ## A pointer against nil -/
def isPtr : AV → Bool
  | .ptr _ _ => true
  | .fptr _ => true
  | _ => false
def ptrL (P : Program) (st : St) (ops : List Oper) (o : Oper) : Bool :=
  match dOk st.n o.dst, gOkL ops st o.guard, o.op with
  | true, some true, .binOp .eql t x (.const (.pointer none)) _ => match P.underlying t, st.eval x with
    | some (.pointer _), some c => isPtr c
    | _, _ => false
  | _, _, _ => false
theorem binPtrNil {P : Program} (w : World) (t e : TypeId) (a : Addr) (h : P.underlying t = some (.pointer e)) :
    (binOp .eql t (.pointer (some a)) (.pointer none)).run P w = .ok (.bool false) w := by
  have h1 : ∀ d, (Op.equalIn (d + 1) t (.pointer (some a)) (.pointer none)).run P w = .ok false w := fun d => by simp [Op.equalIn, run_underlying h]
  simp only [binOp]
  simp [Op.equal, Op.maxDepth, h1 9999]
theorem AOL.ptrNil {P : Program} {ops : Array Oper} {o : Oper} {os : List Oper} {K : St → Prop} {st st' : St}
    (hc : ptrL P st ops.toList o = true) (hst : st.put o.dst (.val (.bool false)) = st' := by simp only [St.put, ins, del, reduceIte, Nat.reduceLT, Nat.reduceEqDiff]; exact rfl)
    (h : AOL P ops os K st') : AOL P ops (o :: os) K st := by
  subst hst
  intro i hi
  obtain ⟨ho, hi'⟩ := drop_cons hi
  rw [List.length_cons, List.range'_succ]
  unfold ptrL at hc
  split at hc
  · rename_i t x _ hd hg hop
    rw [gOkL_eq] at hg
    split at hc
    · rename_i e c hu hx
      intro ρ F a w Q hR hQ
      have hw := gOk_rel hR hg
      have hv := hR.get hx
      have key : ∃ p, a.eval x = .pointer (some p) := by
        cases c <;> simp only [isPtr, Bool.false_eq_true] at hc
        · simp only [VR] at hv
          obtain ⟨r, m, _, e1⟩ := hv
          exact ⟨_, e1⟩
        · simp only [VR] at hv
          obtain ⟨p, vs, e1, _⟩ := hv
          exact ⟨_, e1⟩
      obtain ⟨p, e1⟩ := key
      simp only [wpOps, ho, hw, if_true]
      refine .inl ?_
      have hrun : (execOp a.eval o).run P w = .ok (.value (.bool false)) w := by
        have h1 : ∀ oy, (eqGuard .eql t x oy (.pointer (some p)) (.pointer none)).run P w = .ok () w := fun oy => by simp [eqGuard]
        have h2 := binPtrNil w t e p hu
        have h0 : a.eval (.const (.pointer none)) = .pointer none := rfl
        simp only [execOp, hop, e1, h0, Sem.run_bind, h1, h2, Result.andThen, Sem.run_pure]
      simp only [Oper.wp, hrun, Oper.upon]
      exact h (i + 1) hi' ρ F _ w Q (hR.put (dOk_lt hd) (by simp only [VR])) fun st' ρ'' F'' a' w'' h1 h2 h3 => hQ st' ρ'' F'' a' w'' h1 h2 h3
    · cases hc
  · cases hc
end Go.Proofs.YtjeafkodcmbabaaDoor.E

namespace Go.Proofs.YtjeafkodcmbabaaDoor.E
set_option linter.unusedVariables false
set_option linter.unusedSimpArgs false
/-! ## Calls that write own blocks, one behind the other, in a region that is drawn; what floats beside them reads other blocks -/
theorem drops_t_mem {t : Nat} {v : AV} : ∀ (Ls : List Nat) {st : St}, (∀ l ∈ Ls, kill l v = v) → (t, v) ∈ st.t → (t, v) ∈ (st.drops Ls).t
  | [], _, _, h => h
  | l :: r, st, hk, h => by
    have h1 : (t, kill l v) ∈ (st.drop l).t := mem_mapT' h
    rw [hk l (by simp)] at h1
    exact drops_t_mem r (fun l hl => hk l (List.mem_cons_of_mem _ hl)) h1
/-- a call among those: what it needs, and what it leaves -/
def CutF (P : Program) (st : St) (os : List Oper) (vs : List (AV × Option Blk)) (o : Oper) (v : AV) (h h' : List (Nat × Blk)) (Ls : List Nat) : Prop :=
  dOk st.n o.dst = true ∧ o.guard = none ∧ ∀ (T : List (Nat × AV)) (K' : St → Prop), K' (({ (St.drops ⟨st.n, (dViewL st os vs [] o).t ++ T, h⟩ Ls) with h := h' } : St).put o.dst v) →
    AOL P #[o] [o] K' ⟨st.n, (dViewL st os vs [] o).t ++ T, h⟩
theorem AW.drawM {P : Program} {id : Nat} {ops : Array Oper} {K : Exit → St → Prop} {st : St} (hmix : P.follows .mixedOrders = true) {m C : Nat} {cut : Nat → Nat} {H : Nat → List (Nat × Blk)} {Hc : List (Nat × Blk)} {Ls : List Nat} {vs : List (AV × Option Blk)} {val : Nat → AV}
    (hm : m ≤ ops.size) (ht : tailOk ops m = true) (hnd : (dsts (ops.toList.take m)).Nodup) (hcm : ∀ q, q < C → cut q < m) (hinj : ∀ q q', q < C → q' < C → cut q = cut q' → q = q')
    (hchain : ∀ q q', q < q' → q' < C → ∀ S : Nat → Bool, Closed ops S → S (cut q') = true → S (cut q) = true)
    (hH0 : H 0 = st.h) (hHc : ∀ q, q ≤ C → ∀ p ∈ Hc, p ∈ H q) (hvl : vs.length = m) (hvn : ∀ v ∈ vs, v.2 = none) (hv : ∀ q, q < C → vs[cut q]? = some (val q, none))
    (hkt : ∀ l ∈ Ls, ∀ p ∈ st.t, kill l p.2 = p.2) (hkv : ∀ l ∈ Ls, ∀ v ∈ vs, kill l v.1 = v.1)
    (hcut : ∀ (q : Nat) (o : Oper), q < C → (ops.toList.take m)[cut q]? = some o → CutF P st (ops.toList.take m) vs o (val q) (H q) (H (q + 1)) Ls)
    (f : ∀ (i : Nat) (o : Oper) (v : AV × Option Blk), (∀ q, q < C → i ≠ cut q) → (ops.toList.take m)[i]? = some o → vs[i]? = some v → DFact P ⟨st.n, st.t, Hc⟩ ops (ops.toList.take m) vs i o v)
    (hT : AOps P ops (List.range' m (ops.size - m)) (K .normal) (dSt ⟨st.n, st.t, H C⟩ (ops.toList.take m) vs fun _ => true)) : AW P (.region id ops true) K st := by
  intro ρ F a w Q hR hQ
  refine wp_region_any hmix ?_
  have hw1 : Rel ρ F st a { w with drawn := w.drawn + 1 } :=
    ⟨⟨fun l B hB => by
        rcases hR.heap.blk l B hB with h | ⟨r, m, c, h1, h2, h3, us, h4, h5⟩
        · exact .inl h
        · exact .inr ⟨r, m, c, h1, h2, h3, us, VRs.keep (w := w) (w' := { w with drawn := w.drawn + 1 }) (fun _ h => h) (fun _ _ _ _ h => h) (fun _ _ h => h) _ _ h4, h5⟩, hR.heap.inj, hR.heap.apart, hR.heap.lt, hR.heap.flt, hR.heap.glb⟩, hR.size, hR.defers,
      fun t v hv => ⟨(hR.tmps t v hv).1, VR.keep (w := w) (w' := { w with drawn := w.drawn + 1 }) (fun _ h => h) (fun _ _ _ _ h => h) (fun _ _ h => h) _ _ (hR.tmps t v hv).2⟩⟩
  have hFd : Fr ρ F w ρ F { w with drawn := w.drawn + 1 } :=
    ⟨rfl, rfl, rfl, Nat.le_refl _, fun _ _ _ => rfl, fun _ h => h, fun _ h => .inl h, fun l r m h => .inl ⟨l, m, h⟩, fun _ _ x y h k => by rw [h] at k; exact Option.some.inj k, fun _ _ h => h⟩
  generalize hos : ops.toList.take m = os at *
  have hosget : ∀ i, i < m → os[i]? = ops[i]? := by
    intro i hi; rw [← hos, List.getElem?_take, if_pos hi, Array.getElem?_toList]
  have hnone : ∀ (i : Nat) (v : AV × Option Blk), vs[i]? = some v → v.2 = none := fun i v h => hvn v (List.mem_of_getElem? h)
  have mkInv : ∀ {s : St} {S ρ F a w}, Rel ρ F (dSt s os vs S) a w → Inv s os vs S ρ F a w := by
    intro s S ρ F a w h
    exact ⟨h, fun i o v d _ h2 _ _ h5 => by rw [hnone i v h2] at h5; cases h5⟩
  have hno : ∀ {s : St}, ∀ (j : Nat) (o' : Oper) (v' : AV × Option Blk) (d : Tmp), os[j]? = some o' → vs[j]? = some v' → o'.dst = some d → v'.2.isSome = true → ∀ C, (lab d, C) ∉ s.h := by
    intro s j o' v' d _ h2 _ h4
    rw [hnone j v' h2] at h4; cases h4
  have noH : ∀ {S : Nat → Bool}, ∀ p, p ∉ partH S 0 os vs := by
    intro S p hp
    obtain ⟨j, o', v', d, h1, h2, h3, h4, h5, h6⟩ := mem_partH.1 hp
    rw [hnone j v' h2] at h6; cases h6
  refine draw_anyJ (J := fun S ρ F a w => ∃ p, p ≤ C ∧ (∀ d, d < p → S (cut d) = true) ∧ (∀ d, p ≤ d → d < C → S (cut d) = false) ∧ Rel ρ F (dSt ⟨st.n, st.t, H p⟩ os vs S) a w) (K := K .normal) (ρ0 := ρ) (F0 := F) (w0 := w) (stf := dSt ⟨st.n, st.t, H C⟩ os vs fun _ => true) hm ht ?_ ?_ hT (fun st' ρ' F' a' w' h1 h2 h3 => hQ _ st' ρ' F' a' w' h1 h2 h3) ops.size (ρ := ρ) (F := F) (by simp) ?_ ?_ ?_ ?_ hFd
  · rintro S ρ F a w i o N ho him hSi hp hcl hlm ⟨p, hpC, hp1, hp2, hI⟩ hN
    have hoi : os[i]? = some o := by rw [hosget i him]; exact ho
    have hcl1 : ∀ (j : Nat) (o' : Oper), os[j]? = some o' → S j = true → ∀ k ∈ dpreds o', S k = true := fun j o' h1 h2 => hcl j o' (by
      have hjm : j < m := by
        have := (List.getElem?_eq_some_iff.1 h1).1
        rw [← hos, List.length_take] at this; omega
      rw [← hosget j hjm]; exact h1) h2
    have base : ∀ (p : Nat × AV), p ∈ dropTs (dsts os) st.t → p ∈ st.t ∧ p.1 ∉ dstsS S 0 os := by
      intro p h
      have h' := mem_dropTs h
      refine ⟨h'.1, fun hm => h'.2 ?_⟩
      obtain ⟨j, o', h1, h2, h3⟩ := mem_dstsS.1 hm
      exact dsts_mem h1 h3
    by_cases hcutE : ∃ d, d < C ∧ cut d = i
    · obtain ⟨d, hdC, hd⟩ := hcutE
      have hdp : d = p := by
        rcases Nat.lt_trichotomy d p with h | h | h
        · have := hp1 d h; rw [hd, hSi] at this; cases this
        · exact h
        · have h2 := hp2 p (Nat.le_refl _) (by omega)
          have hc2 : Closed ops (upd S i) := by
            intro j o' ho' hj k hk
            simp only [upd, Bool.or_eq_true, beq_iff_eq] at hj ⊢
            rcases hj with hj | rfl
            · exact .inl (hcl j o' ho' hj k hk)
            · rw [ho] at ho'; cases ho'; exact .inl (hp k hk)
          have := hchain p d h hdC _ hc2 (by rw [hd]; simp [upd])
          simp only [upd, Bool.or_eq_true, beq_iff_eq] at this
          rcases this with h' | h'
          · rw [h2] at h'; cases h'
          · have := hinj p d (by omega) hdC (by rw [h', hd]); omega
      subst hdp
      subst hd
      obtain ⟨hdn, hgu, hcall⟩ := hcut d o hdC hoi
      have hσ : Rel ρ F ⟨st.n, (dViewL st os vs [] o).t ++ (dSt ⟨st.n, st.t, H d⟩ os vs S).t, H d⟩ a w := by
        refine hI.subset rfl ?_ (by intro p hp'; simp only [dSt, List.mem_append] at hp' ⊢; exact .inr hp')
        intro p hp'
        rcases List.mem_append.1 hp' with hp' | hp'
        · simp only [dViewL, dSt, List.mem_append, List.not_mem_nil, false_or] at hp' ⊢
          rcases hp' with h | h
          · obtain ⟨j, o', v', h1, h2, h3, h4, h5⟩ := mem_partT.1 h
            refine .inl (mem_partT.2 ⟨j, o', v', h1, h2, ?_, h4, h5⟩)
            rw [Nat.zero_add] at h3 ⊢
            exact hp j (by simpa using h3)
          · have := base p h
            exact .inr (mem_dropTs' this.1 this.2)
        · exact hp'
      have hkill : ∀ p ∈ (dSt ⟨st.n, st.t, H d⟩ os vs S).t, ∀ l ∈ Ls, kill l p.2 = p.2 := by
        intro p hp' l hl
        simp only [dSt, List.mem_append] at hp'
        rcases hp' with h | h
        · obtain ⟨j, o', v', h1, h2, h3, h4, h5⟩ := mem_partT.1 h
          rw [← h5]; exact hkv l hl v' (List.mem_of_getElem? h2)
        · exact hkt l hl p (mem_dropTs h).1
      have hA := hcall (dSt ⟨st.n, st.t, H d⟩ os vs S).t (fun s => s = (({ (St.drops ⟨st.n, (dViewL st os vs [] o).t ++ (dSt ⟨st.n, st.t, H d⟩ os vs S).t, H d⟩ Ls) with h := H (d + 1) } : St).put o.dst (val d))) rfl
      refine wpOp_of ((AOps.lone ho hgu hA) ρ F a w _ hσ ?_)
      rintro st' ρ' F' a' w' rfl hR' hF
      refine hN ρ' F' a' w' ⟨d + 1, hdC, ?_, ?_, ?_⟩ hF
      · intro d' hd'
        simp only [upd, Bool.or_eq_true, beq_iff_eq]
        rcases Nat.lt_or_ge d' d with h | h
        · exact .inl (hp1 d' h)
        · exact .inr (by rw [show d' = d by omega])
      · intro d' h1 h2
        simp only [upd, Bool.or_eq_false_iff, beq_eq_false_iff_ne, ne_eq]
        exact ⟨hp2 d' (by omega) h2, fun e => by have := hinj d' d h2 hdC e; omega⟩
      have old : ∀ p, p ∈ (dSt ⟨st.n, st.t, H d⟩ os vs S).t → (∀ e, o.dst = some e → p.1 ≠ e) → p ∈ (({ (St.drops ⟨st.n, (dViewL st os vs [] o).t ++ (dSt ⟨st.n, st.t, H d⟩ os vs S).t, H d⟩ Ls) with h := H (d + 1) } : St).put o.dst (val d)).t := by
        intro p hp' h2
        have h1 : p ∈ (St.drops ⟨st.n, (dViewL st os vs [] o).t ++ (dSt ⟨st.n, st.t, H d⟩ os vs S).t, H d⟩ Ls).t := drops_t_mem (t := p.1) (v := p.2) Ls (fun l hl => hkill p hp' l hl) (List.mem_append.2 (.inr hp'))
        cases hd : o.dst with
        | none => exact h1
        | some e => exact mem_ins_other (h2 e hd) h1
      refine hR'.subset ?_ ?_ ?_
      · cases o.dst <;> simp only [St.put, dSt, drops_n]
      · intro p hp'
        simp only [dSt, List.mem_append] at hp'
        rcases hp' with h | h
        · obtain ⟨j, o', v', h1, h2, h3, h4, h5⟩ := mem_partT.1 h
          simp only [Nat.zero_add, upd, Bool.or_eq_true, beq_iff_eq] at h3
          by_cases hj : j = cut d
          · subst hj
            rw [hv d hdC] at h2; cases h2
            rw [hoi] at h1; cases h1
            obtain ⟨p1, p2⟩ := p
            simp only at h4 h5
            subst h5
            rw [h4]
            exact mem_ins_self _ _ _
          · have hSj : S j = true := h3.resolve_right hj
            refine old p (List.mem_append.2 (.inl (mem_partT.2 ⟨j, o', v', h1, h2, by rw [Nat.zero_add]; exact hSj, h4, h5⟩))) ?_
            intro e he e'
            rw [e'] at h4
            exact hj (dsts_inj hnd h1 hoi h4 he)
        · have h' := mem_dropTs h
          refine old p (List.mem_append.2 (.inr (mem_dropTs' h'.1 fun hm => h'.2 ?_))) ?_
          · obtain ⟨j, o', h1, h2, h3⟩ := mem_dstsS.1 hm
            exact mem_dstsS.2 ⟨j, o', h1, by simp only [upd]; rw [h2]; rfl, h3⟩
          · intro e he e'
            exact h'.2 (mem_dstsS.2 ⟨cut d, o, hoi, by simp [upd], by rw [e']; exact he⟩)
      · intro p hp'
        simp only [dSt, List.mem_append] at hp'
        have hp' := hp'.resolve_left (noH p)
        cases o.dst <;> exact hp'
    · have hic : ∀ q, q < C → i ≠ cut q := fun q hq e => hcutE ⟨q, hq, e.symm⟩
      obtain ⟨v, hvi⟩ : ∃ v, vs[i]? = some v := ⟨_, List.getElem?_eq_getElem (by rw [hvl]; exact him)⟩
      refine draw_step3 (st := ⟨st.n, st.t, H p⟩) (vs := vs) (stv := ⟨st.n, st.t, Hc⟩) (vsv := vs) hnd hno ho hoi hvi hSi hp hcl1 rfl ?_ (f i o v hic hoi hvi) (mkInv hI) ?_
      · intro L hL
        refine hI.subset rfl ?_ ?_
        · intro q hq
          simp only [dViewL, dSt, List.mem_append] at hq ⊢
          rcases hq with h | h | h
          · obtain ⟨j, o', v', h1, h2, h3, h4, h5⟩ := mem_partT.1 h
            refine .inl (mem_partT.2 ⟨j, o', v', h1, h2, ?_, h4, h5⟩)
            rw [Nat.zero_add] at h3 ⊢
            exact hp j (by simpa using h3)
          · refine .inr (mem_dropTs' (hL q h).1 fun hm => ?_)
            obtain ⟨j, o', h1, h2, h3⟩ := mem_dstsS.1 hm
            rw [Nat.zero_add] at h2
            have := hcl1 j o' h1 h2 i ((hL q h).2 j o' h1 h3)
            rw [hSi] at this; cases this
          · have := base q h
            exact .inr (mem_dropTs' this.1 this.2)
        · intro q hq
          simp only [dSt, List.mem_append]
          exact .inr (hHc p hpC q hq)
      · intro ρ' F' a' w' hI' hFr
        refine hN ρ' F' a' w' ⟨p, hpC, ?_, ?_, hI'.rel⟩ hFr
        · intro d hd
          simp only [upd, hp1 d hd, Bool.true_or]
        · intro d h1 h2
          simp only [upd, Bool.or_eq_false_iff, beq_eq_false_iff_ne, ne_eq]
          exact ⟨hp2 d h1 h2, fun e => hic d h2 e.symm⟩
  · rintro S ρ F a w hS ⟨p, hpC, hp1, hp2, hI⟩
    have hpe : p = C := by
      rcases Nat.lt_or_ge p C with h | h
      · have := hp2 p (Nat.le_refl _) h
        rw [hS] at this
        simp only [decide_eq_false_iff_not] at this
        exact absurd (hcm p h) this
      · omega
    subst hpe
    refine hI.subset rfl ?_ ?_
    · intro q hq
      simp only [dSt, List.mem_append] at hq ⊢
      rcases hq with hq | hq
      · obtain ⟨i, o, v, h1, h2, _, h4, h5⟩ := mem_partT.1 hq
        refine .inl (mem_partT.2 ⟨i, o, v, h1, h2, ?_, h4, h5⟩)
        have := (List.getElem?_eq_some_iff.1 h2).1
        rw [hS]; simp; omega
      · have hp' := mem_dropTs hq
        refine .inr (mem_dropTs' hp'.1 fun hm => hp'.2 ?_)
        obtain ⟨j, o', h1, h2, h3⟩ := mem_dstsS.1 hm
        exact mem_dstsS.2 ⟨j, o', h1, rfl, h3⟩
    · intro q hq
      simp only [dSt, List.mem_append] at hq ⊢
      exact .inr (hq.resolve_left (noH q))
  · have : ∀ n, unl (List.replicate n false) = n := by
      intro n; induction n with
      | zero => rfl
      | succ n ih => simp [List.replicate_succ, unl, ih, Nat.add_comm]
    simp [this]
  · intro i o ho hi
    simp [ls, Array.getD_eq_getD_getElem?, Array.getElem?_replicate] at hi
    split at hi <;> simp at hi
  · intro i hi
    simp [ls, Array.getD_eq_getD_getElem?, Array.getElem?_replicate] at hi
    split at hi <;> simp at hi
  · have hf : ls (Array.replicate ops.size false) = fun _ => false := by
      funext i
      simp only [ls, Array.getD_eq_getD_getElem?, Array.getElem?_replicate]
      split <;> rfl
    rw [hf]
    refine ⟨0, Nat.zero_le _, fun d h => absurd h (Nat.not_lt_zero _), fun _ _ _ => rfl, hw1.subset rfl ?_ ?_⟩
    · intro p hp
      simp only [dSt, List.mem_append] at hp
      rcases hp with hp | hp
      · obtain ⟨i, o, v, _, _, h3, _⟩ := mem_partT.1 hp; cases h3
      · exact (mem_dropTs hp).1
    · intro p hp
      simp only [dSt, List.mem_append] at hp
      rcases hp with hp | hp
      · exact absurd hp (noH p)
      · rw [hH0] at hp; exact hp
end Go.Proofs.YtjeafkodcmbabaaDoor.E

namespace Go.Proofs.YtjeafkodcmbabaaDoor.E
set_option linter.unusedVariables false
set_option linter.unusedSimpArgs false
/-! ## The same, step by step -/
abbrev Cut := Nat × AV × List (Nat × Blk) × List (Nat × Blk)
theorem CutF.app {P : Program} {st : St} {os : List Oper} {vs r : List (AV × Option Blk)} {o : Oper} {v : AV} {h h' : List (Nat × Blk)} {Ls : List Nat} (hp : ∀ j ∈ dpreds o, j < vs.length) (hf : CutF P st os vs o v h h' Ls) : CutF P st os (vs ++ r) o v h h' Ls := by
  have hview : dViewL st os (vs ++ r) [] o = dViewL st os vs [] o := by
    simp only [dViewL]
    rw [partT_app]
    intro j hj
    simp only [List.contains_eq_mem, decide_eq_false_iff_not]
    intro hm
    have := hp j hm
    omega
  unfold CutF at hf ⊢
  rw [hview]
  exact hf
def ADM (G : Prop) (P : Program) (ops : Array Oper) (m : Nat) (st : St) (Hc : List (Nat × Blk)) (Ls : List Nat) (pre : List Oper) (base : List (Nat × AV)) (os : List Oper) (vs : List (AV × Option Blk)) (hcur : List (Nat × Blk)) (cuts : List Cut) : Prop :=
  drawOk ops m = true → pre = ops.toList.take m → base = dropTs (dsts pre) st.t → pre.drop vs.length = os →
    (∀ (i : Nat) (o : Oper) (v : AV × Option Blk), pre[i]? = some o → vs[i]? = some v → (∀ c ∈ cuts, i ≠ c.1) → DFact P ⟨st.n, st.t, Hc⟩ ops pre vs i o v) →
    (∀ v ∈ vs, v.2 = none) →
    (∀ c ∈ cuts, vs[c.1]? = some (c.2.1, none) ∧ ∀ o, pre[c.1]? = some o → CutF P st pre vs o c.2.1 c.2.2.1 c.2.2.2 Ls) → G
theorem ADM.snoc {G : Prop} {P : Program} {ops : Array Oper} {m : Nat} {st : St} {Hc : List (Nat × Blk)} {Ls : List Nat} {pre : List Oper} {base : List (Nat × AV)} {o : Oper} {os : List Oper} {vs : List (AV × Option Blk)} {v : AV} {hcur hnew : List (Nat × Blk)} {cuts new : List Cut}
    (hf : drawOk ops m = true → pre = ops.toList.take m → base = dropTs (dsts pre) st.t → (new = [] ∧ DFact P ⟨st.n, st.t, Hc⟩ ops pre vs vs.length o (v, none)) ∨ (new = [(vs.length, v, hcur, hnew)] ∧ CutF P st pre vs o v hcur hnew Ls))
    (h : ADM G P ops m st Hc Ls pre base os (vs ++ [(v, none)]) hnew (cuts ++ new)) : ADM G P ops m st Hc Ls pre base (o :: os) vs hcur cuts := by
  intro hok hpre hbase hos hfs hns hcs
  have ho : pre[vs.length]? = some o := by
    have := congrArg (·[0]?) hos
    simpa using this
  have hf := hf hok hpre hbase
  have he : edgesOk 0 ops.toList = true := by
    simp only [drawOk, Bool.and_eq_true] at hok; exact hok.1
  have hpd : ∀ (i : Nat) (o' : Oper), pre[i]? = some o' → i ≤ vs.length → ∀ j ∈ dpreds o', j < vs.length := by
    intro i o' ho' hi j hj
    have h1 : ops.toList[i]? = some o' := by
      rw [hpre, List.getElem?_take] at ho'
      split at ho'
      · exact ho'
      · cases ho'
    have := edgesOk_lt he i o' h1 j hj
    omega
  refine h hok hpre hbase (by rw [List.length_append, List.length_singleton, ← List.drop_drop, hos]; rfl) ?_ ?_ ?_
  · intro i o' v' ho' hv' hnc
    have hi : i ≤ vs.length := by
      have := (List.getElem?_eq_some_iff.1 hv').1
      simp at this; omega
    by_cases hlt : i < vs.length
    · rw [List.getElem?_append_left hlt] at hv'
      exact (hfs i o' v' ho' hv' fun c hc => hnc c (List.mem_append_left _ hc)).app (hpd i o' ho' hi)
    · have hie : i = vs.length := by omega
      subst hie
      rw [List.getElem?_append_right (Nat.le_refl _)] at hv'
      simp at hv'
      subst hv'
      rw [ho] at ho'
      cases ho'
      rcases hf with ⟨_, hf⟩ | ⟨e, _⟩
      · exact hf.app (hpd _ _ ho (Nat.le_refl _))
      · exact absurd rfl (hnc (vs.length, v, hcur, hnew) (by rw [e]; simp))
  · intro v' hv'
    rcases List.mem_append.1 hv' with hv' | hv'
    · exact hns v' hv'
    · simp only [List.mem_singleton] at hv'; subst hv'; rfl
  · intro c hc
    rcases List.mem_append.1 hc with hc | hc
    · obtain ⟨h1, h2⟩ := hcs c hc
      have hlt := (List.getElem?_eq_some_iff.1 h1).1
      exact ⟨by rw [List.getElem?_append_left hlt]; exact h1, fun o' ho' => (h2 o' ho').app (hpd _ _ ho' (Nat.le_of_lt hlt))⟩
    · rcases hf with ⟨e, _⟩ | ⟨e, hf⟩
      · rw [e] at hc; cases hc
      · rw [e] at hc
        simp only [List.mem_singleton] at hc
        subst hc
        refine ⟨by simp, fun o' ho' => ?_⟩
        have ho' : pre[vs.length]? = some o' := ho'
        rw [ho] at ho'
        cases ho'
        exact hf.app (hpd _ _ ho (Nat.le_refl _))
theorem ADM.cut {G : Prop} {P : Program} {ops : Array Oper} {m : Nat} {st : St} {Hc : List (Nat × Blk)} {Ls : List Nat} {pre : List Oper} {base : List (Nat × AV)} {o : Oper} {os : List Oper} {vs vs' : List (AV × Option Blk)} {v : AV} {hcur hnew : List (Nat × Blk)} {cuts cuts' : List Cut}
    (hc : ∀ vw : St, vw = dVw st pre base vs o → CutF P st pre vs o v hcur hnew Ls ∨ (dOk st.n o.dst = true ∧ o.guard = none ∧ ∀ (T : List (Nat × AV)) (K' : St → Prop), K' (({ (St.drops ⟨st.n, vw.t ++ T, hcur⟩ Ls) with h := hnew } : St).put o.dst v) → AOL P #[o] [o] K' ⟨st.n, vw.t ++ T, hcur⟩))
    (hvs : vs ++ [(v, none)] = vs' := by simp only [List.cons_append, List.nil_append]; exact rfl) (hcs : cuts ++ [(vs.length, v, hcur, hnew)] = cuts' := by simp only [List.cons_append, List.nil_append, List.length_cons, List.length_nil, Nat.zero_add, Nat.reduceAdd]; exact rfl)
    (h : ADM G P ops m st Hc Ls pre base os vs' hnew cuts') : ADM G P ops m st Hc Ls pre base (o :: os) vs hcur cuts := by
  subst hvs hcs
  refine ADM.snoc (hnew := hnew) (new := [(vs.length, v, hcur, hnew)]) (fun hok hpre hbase => .inr ⟨rfl, ?_⟩) h
  rcases hc _ rfl with hc | ⟨h1, h2, h3⟩
  · exact hc
  · rw [dVw_L hbase] at h3
    exact ⟨h1, h2, h3⟩
theorem ADM.dm {G : Prop} {P : Program} {ops : Array Oper} {m : Nat} {st : St} {Hc : List (Nat × Blk)} {Ls : List Nat} {pre : List Oper} {base : List (Nat × AV)} {o : Oper} {os : List Oper} {vs vs' : List (AV × Option Blk)} {v : AV × Option Blk} {hcur : List (Nat × Blk)} {cuts : List Cut}
    (hr : dStepL P st.n ops.toList [] (dVw ⟨st.n, st.t, Hc⟩ pre base vs o) o = some v := by
      simp only [dRunK, dStepL, dVw, pickT, predsL, inL, dEval, lOk, runK, stepL, memOp, pureOp, gOkL, dstAt, dOk, St.eval, St.evalO, get?, St.put, ins, del, AV.ofV, aBinAll, aBin, aBinI, aBinA, csEq, cEq, rI, isC, aUn, aConv, aStr, nums_by8, aIface, aNil, aCallB, aLen, aMinMax, intOf?, bnd, Go.Proofs.YtjeafkodcmbabaaDoor.E.ld, Go.Proofs.YtjeafkodcmbabaaDoor.E.part, Go.Proofs.YtjeafkodcmbabaaDoor.E.takeAgg_tk, Go.Proofs.YtjeafkodcmbabaaDoor.E.tk, aFieldAddr, aIndexAddr, aField, aIndex, aBuildSlice, cBuild, aAlloc, aStore, aApp, srcCells, aFill, mapM?, St.parts, St.new, St.drop, mapT, mapH, kill, kills, AV.cells, AV.fits, AV.one, AV.free, frees, splice, cyc, lab, Value.oneCell', Value.cells, Option.bind_some, Option.map_some, Option.bind_none, Option.map_none, decide_true, decide_false, if_true, if_false, reduceIte, reduceCtorEq, Bool.false_eq_true, Nat.reduceLT, Nat.reduceEqDiff, Nat.reduceAdd, Nat.reduceMul, Nat.reduceLeDiff, Nat.reduceSub, Nat.zero_add, Nat.add_zero, Nat.zero_mul, Nat.one_mul, Nat.mul_one, Int.toNat_natCast, Int.toNat_zero, List.drop_succ_cons, List.drop_zero, List.take_succ_cons, List.take_zero, List.length_cons, List.length_nil, List.head?_cons, List.map_cons, List.map_nil, List.all_cons, List.all_nil, List.cons_append, List.nil_append, List.append_nil, List.set_cons_zero, List.set_cons_succ, List.getElem?_cons_zero, List.getElem?_cons_succ, Bool.not_true, Bool.not_false, beq_true, beq_false, Bool.true_beq, Bool.false_beq, Bool.and_self, Bool.and_true, Bool.true_and, and_self, and_true, true_and, false_implies, true_implies, implies_true, bne_self_eq_false, beq_self_eq_true, Option.isSome_some, List.all, *]
      exact rfl)
    (h2 : v.2 = none := by exact rfl) (hvs : vs ++ [v] = vs' := by simp only [List.cons_append, List.nil_append]; exact rfl)
    (h : ADM G P ops m st Hc Ls pre base os vs' hcur cuts) : ADM G P ops m st Hc Ls pre base (o :: os) vs hcur cuts := by
  subst hvs
  obtain ⟨v1, v2⟩ := v
  simp only at h2
  subst h2
  refine ADM.snoc (hnew := hcur) (new := []) (fun hok hpre hbase => .inl ⟨rfl, ?_⟩) (by rw [List.append_nil]; exact h)
  rw [dVw_L (stv := ⟨st.n, st.t, Hc⟩) hbase] at hr
  unfold dStepL at hr
  rw [gOkL_eq] at hr
  split at hr
  · rename_i hd hg
    cases hr
    exact ⟨hd, [], LateOk.nil _ _ _, .inl ⟨hg, rfl⟩⟩
  · rename_i hd hg
    simp only [Option.bind_eq_some_iff] at hr
    obtain ⟨v', hv, hr⟩ := hr
    split at hr
    · cases hr
      exact ⟨hd, [], LateOk.nil _ _ _, .inr ⟨hg, .inl hv⟩⟩
    · cases hr
  · cases hr
def chainP (h0 : List (Nat × Blk)) : List Cut → Prop
  | [] => True
  | c :: r => c.2.2.1 = h0 ∧ chainP c.2.2.2 r
def lastH (h0 : List (Nat × Blk)) : List Cut → List (Nat × Blk)
  | [] => h0
  | c :: r => lastH c.2.2.2 r
def chainOk (ops : Array Oper) (m : Nat) : List Cut → Bool
  | [] => true
  | [c] => decide (c.1 < m)
  | c :: d :: r => decide (c.1 < d.1) && ((masks ops.toList []).getD d.1 0).testBit c.1 && decide (c.1 < m) && chainOk ops m (d :: r)
def heapAt (h0 : List (Nat × Blk)) : List Cut → Nat → List (Nat × Blk)
  | _, 0 => h0
  | [], _ + 1 => h0
  | c :: r, q + 1 => heapAt c.2.2.2 r q
theorem chainP.at : ∀ {cuts : List Cut} {h0 : List (Nat × Blk)} {q : Nat} {c : Cut}, chainP h0 cuts → cuts[q]? = some c → c.2.2.1 = heapAt h0 cuts q ∧ c.2.2.2 = heapAt h0 cuts (q + 1)
  | [], _, _, _, _, h => by simp at h
  | d :: r, h0, 0, c, hc, h => by
    simp only [List.getElem?_cons_zero, Option.some.injEq] at h
    subst h
    exact ⟨hc.1, by cases r <;> rfl⟩
  | d :: r, h0, q + 1, c, hc, h => by
    simp only [List.getElem?_cons_succ] at h
    have := chainP.at (cuts := r) (h0 := d.2.2.2) hc.2 h
    exact this
theorem heapAt_last : ∀ {cuts : List Cut} {h0 : List (Nat × Blk)}, heapAt h0 cuts cuts.length = lastH h0 cuts
  | [], _ => rfl
  | c :: r, _ => by simp only [List.length_cons, heapAt, lastH]; exact heapAt_last
theorem heapAt_mem {Hc : List (Nat × Blk)} : ∀ {cuts : List Cut} {h0 : List (Nat × Blk)}, (∀ p ∈ Hc, p ∈ h0) → (∀ c ∈ cuts, ∀ p ∈ Hc, p ∈ c.2.2.2) → ∀ q, ∀ p ∈ Hc, p ∈ heapAt h0 cuts q
  | _, _, h, _, 0 => by intro p hp; cases ‹List Cut› <;> exact h p hp
  | [], _, h, _, _ + 1 => h
  | c :: r, _, _, hc, q + 1 => heapAt_mem (cuts := r) (hc c (by simp)) (fun d hd => hc d (List.mem_cons_of_mem _ hd)) q
theorem anc1 {ops : Array Oper} {i j : Nat} (h : ((masks ops.toList []).getD i 0).testBit j = true) {S : Nat → Bool} (hc : Closed ops S) {o : Oper} (ho : ops[i]? = some o) (hS : S i = true) : S j = true :=
  masks_bits ops.toList (fun i => S i = true) (fun i o ho hi j hj => hc i o (by rw [← Array.getElem?_toList]; exact ho) hi j hj) ops.toList [] [] (by simp) rfl (by simp) i o (by rw [Array.getElem?_toList]; exact ho) (hc i o ho hS) j h
theorem chainOk.at {ops : Array Oper} {m : Nat} (hm : m ≤ ops.size) : ∀ {cuts : List Cut}, chainOk ops m cuts = true → (∀ (q : Nat) (c : Cut), cuts[q]? = some c → c.1 < m) ∧
    (∀ (q k : Nat) (c d : Cut), cuts[q]? = some c → cuts[q + k + 1]? = some d → c.1 < d.1 ∧ ∀ S : Nat → Bool, Closed ops S → S d.1 = true → S c.1 = true)
  | [], _ => ⟨fun q c h => by simp at h, fun q k c d h => by simp at h⟩
  | [c], h => by
    simp only [chainOk, decide_eq_true_eq] at h
    refine ⟨fun q d hd => ?_, fun q k d e hd he => ?_⟩
    · cases q with
      | zero => simp at hd; subst hd; exact h
      | succ q => simp at hd
    · simp at he
  | c :: d :: r, h => by
    simp only [chainOk, Bool.and_eq_true, decide_eq_true_eq] at h
    obtain ⟨⟨⟨h1, h2⟩, h3⟩, h4⟩ := h
    obtain ⟨i1, i2⟩ := chainOk.at hm (cuts := d :: r) h4
    have hd := i1 0 d rfl
    have step : ∀ S : Nat → Bool, Closed ops S → S d.1 = true → S c.1 = true := fun S hS hd' => anc1 h2 hS (Array.getElem?_eq_getElem (show d.1 < ops.size by omega)) hd'
    refine ⟨fun q e he => ?_, fun q k e f he hf => ?_⟩
    · cases q with
      | zero => simp at he; subst he; exact h3
      | succ q => exact i1 q e (by simpa using he)
    · cases q with
      | zero =>
        simp at he; subst he
        cases k with
        | zero => simp at hf; subst hf; exact ⟨h1, step⟩
        | succ k =>
          have hf' : (d :: r)[0 + k + 1]? = some f := by
            rw [show 0 + (k + 1) + 1 = (k + 1) + 1 by omega, List.getElem?_cons_succ] at hf
            rw [show 0 + k + 1 = k + 1 by omega]; exact hf
          obtain ⟨j1, j2⟩ := i2 0 k d f rfl hf'
          exact ⟨by omega, fun S hS hh => step S hS (j2 S hS hh)⟩
      | succ q =>
        refine i2 q k e f (by simpa using he) ?_
        rw [show q + 1 + k + 1 = (q + k + 1) + 1 by omega] at hf
        simpa using hf
theorem ADM.done {P : Program} {id : Nat} {ops : Array Oper} {K : Exit → St → Prop} {m n : Nat} {st : St} {Hc hcur : List (Nat × Blk)} {Ls : List Nat} {pre : List Oper} {base t : List (Nat × AV)} {vs : List (AV × Option Blk)} {cuts : List Cut} (hmix : P.follows .mixedOrders = true) (hch : chainOk ops m cuts = true) (hlen : vs.length = m)
    (hcp : chainP st.h cuts) (hla : lastH st.h cuts = hcur) (hHc : (∀ p ∈ Hc, p ∈ st.h) ∧ ∀ c ∈ cuts, ∀ p ∈ Hc, p ∈ c.2.2.2) (hkt : ∀ l ∈ Ls, mapT (kill l) st.t = st.t) (hkv : ∀ l ∈ Ls, vs.map (fun v => kill l v.1) = vs.map (·.1))
    (hn : st.n = n := by exact rfl) (ht : insAll base pre vs = t := by simp only [insAll, ins, del, reduceIte, Nat.reduceLT, Nat.reduceEqDiff]; exact rfl)
    {os' : List Oper} (hos' : dropL m ops.toList = os' := by simp only [dropL]; exact rfl) (hT : AOL P ops os' (K .normal) ⟨n, t, hcur⟩) : ADM (AW P (.region id ops true) K st) P ops m st Hc Ls pre base [] vs hcur cuts := by
  intro hok hpre hbase hos hfs hns hcs
  simp only [drawOk, Bool.and_eq_true, decide_eq_true_eq] at hok
  obtain ⟨h1, h2, h3, h4⟩ := hok
  subst hpre
  obtain ⟨c1, c2⟩ := chainOk.at h4 hch
  have hget : ∀ q, q < cuts.length → cuts[q]? = some (cuts.getD q (0, .dead, [], [])) := by
    intro q hq
    rw [List.getD_eq_getElem?_getD, List.getElem?_eq_getElem hq]; rfl
  have kt : ∀ l ∈ Ls, ∀ p ∈ st.t, kill l p.2 = p.2 := by
    intro l hl p hp
    have key : ∀ {L : List (Nat × AV)}, mapT (kill l) L = L → ∀ p ∈ L, kill l p.2 = p.2 := by
      intro L
      induction L with
      | nil => intro _ p hp; cases hp
      | cons a r ih =>
        intro h p hp
        obtain ⟨a1, a2⟩ := a
        simp only [mapT, List.cons.injEq, Prod.mk.injEq, true_and] at h
        rcases List.mem_cons.1 hp with rfl | hp
        · exact h.1
        · exact ih h.2 p hp
    exact key (hkt l hl) p hp
  refine AW.drawM (C := cuts.length) (cut := fun q => (cuts.getD q (0, .dead, [], [])).1) (H := heapAt st.h cuts) (Hc := Hc) (Ls := Ls) (vs := vs) (val := fun q => (cuts.getD q (0, .dead, [], [])).2.1) hmix h4 h2 (nodupB_iff h3) (fun q hq => c1 q _ (hget q hq)) ?_ ?_ (by cases cuts <;> rfl) (fun q _ => heapAt_mem hHc.1 hHc.2 q) hlen hns ?_ kt (fun l hl => mem_of_map (hkv l hl)) ?_ ?_ ?_
  · intro q q' hq hq' e
    rcases Nat.lt_trichotomy q q' with h | h | h
    · obtain ⟨k, rfl⟩ : ∃ k, q' = q + k + 1 := ⟨q' - q - 1, by omega⟩
      have := (c2 q k _ _ (hget q hq) (hget _ hq')).1
      have e : (cuts.getD q (0, .dead, [], [])).1 = (cuts.getD (q + k + 1) (0, .dead, [], [])).1 := e
      omega
    · exact h
    · obtain ⟨k, rfl⟩ : ∃ k, q = q' + k + 1 := ⟨q - q' - 1, by omega⟩
      have := (c2 q' k _ _ (hget q' hq') (hget _ hq)).1
      have e : (cuts.getD (q' + k + 1) (0, .dead, [], [])).1 = (cuts.getD q' (0, .dead, [], [])).1 := e
      omega
  · intro q q' h hq' S hS hh
    obtain ⟨k, rfl⟩ : ∃ k, q' = q + k + 1 := ⟨q' - q - 1, by omega⟩
    exact (c2 q k _ _ (hget q (by omega)) (hget _ hq')).2 S hS hh
  · intro q hq
    exact (hcs _ (List.mem_of_getElem? (hget q hq))).1
  · intro q o hq ho
    have := (hcs _ (List.mem_of_getElem? (hget q hq))).2 o ho
    obtain ⟨e1, e2⟩ := chainP.at (h0 := st.h) hcp (hget q hq)
    rw [e1, e2] at this
    exact this
  · intro i o v hi ho hv
    refine hfs i o v ho hv fun c hc => ?_
    obtain ⟨q, hq, rfl⟩ := List.mem_iff_getElem.1 hc
    have := hi q hq
    rw [List.getD_eq_getElem?_getD, List.getElem?_eq_getElem hq] at this
    exact this
  · have hfin := ADP.fin (P := P) (id := id) (K := K) (m := m) (n := n) (st := st) (stC := ⟨st.n, st.t, hcur⟩) (bl := []) (hh := hcur) (os' := os') hbase ht (fun p hp => hp) hn hos' hT
    rw [heapAt_last, hla]
    simpa only [List.nil_append] using hfin
theorem AW.dM {P : Program} {id : Nat} {ops : Array Oper} {K : Exit → St → Prop} {st : St} {base : List (Nat × AV)} {pre : List Oper} {hcur : List (Nat × Blk)} (m : Nat) (Hc : List (Nat × Blk)) (Ls : List Nat) (hok : drawOk ops m = true)
    (hh : st.h = hcur := by exact rfl)
    (hp : takeL m ops.toList = pre := by simp only [takeL]; exact rfl)
    (hb : dropTL (dsts pre) st.t = base := by simp only [dsts, dropTL, inL, List.cons_append, List.nil_append, List.append_nil, reduceIte, Nat.reduceEqDiff]; exact rfl)
    (h : ADM (AW P (.region id ops true) K st) P ops m st Hc Ls pre base pre [] hcur []) : AW P (.region id ops true) K st := by
  rw [takeL_eq] at hp
  rw [dropTL_eq] at hb
  subst hp
  exact h hok rfl hb.symm rfl (by intro i o v _ hv; simp at hv) (by simp) (by simp)
/-- a call's operands, in a view that stands in front -/
theorem eval_fr {n : Nat} {t T : List (Nat × AV)} {h h' : List (Nat × Blk)} {x : Operand} {v : AV} (e : (⟨n, t, h⟩ : St).eval x = some v) : (⟨n, t ++ T, h'⟩ : St).eval x = some v := eval_front e
theorem mapM_fr {n : Nat} {t T : List (Nat × AV)} {h h' : List (Nat × Blk)} : ∀ {xs : List Operand} {as : List AV}, mapM? (⟨n, t, h⟩ : St).eval xs = some as → mapM? (⟨n, t ++ T, h'⟩ : St).eval xs = some as
  | [], as, e => e
  | x :: xs, as, e => by
    simp only [mapM?, Option.bind_eq_some_iff, Option.map_eq_some_iff] at e ⊢
    obtain ⟨v, hv, as', has, rfl⟩ := e
    exact ⟨v, eval_fr hv, as', mapM_fr has, rfl⟩
theorem callL_front {n : Nat} {t T : List (Nat × AV)} {h h' : List (Nat × Blk)} {o : Oper} {g : FuncId} {as : List AV} {ops : List Oper} (hd : dOk n o.dst = true) (hg : o.guard = none) (e : callOf ⟨n, t, h⟩ o = some (g, as)) : callL ⟨n, t ++ T, h'⟩ ops o = some (g, as) := by
  have hg' : gOkL ops ⟨n, t ++ T, h'⟩ o.guard = some true := by rw [hg]; rfl
  unfold callL
  simp only [hd, hg']
  unfold callOf at e ⊢
  split at e
  · rename_i f args ts hop
    simp only [Option.bind_eq_some_iff] at e ⊢
    obtain ⟨v, hv, e⟩ := e
    refine ⟨v, eval_fr hv, ?_⟩
    split at e
    · simp only [Option.map_eq_some_iff] at e ⊢
      obtain ⟨as', has, e⟩ := e
      exact ⟨as', mapM_fr has, e⟩
    · cases e
  · cases e
theorem drops_heap : ∀ (Ls : List Nat) {n n' : Nat} {t t' : List (Nat × AV)} {h : List (Nat × Blk)}, (St.drops ⟨n, t, h⟩ Ls).h = (St.drops ⟨n', t', h⟩ Ls).h
  | [], _, _, _, _, _ => rfl
  | l :: r, n, n', t, t', h => drops_heap r (n := n) (n' := n') (t := mapT (kill l) t) (t' := mapT (kill l) t') (h := mapH l (del l h))
end Go.Proofs.YtjeafkodcmbabaaDoor.E
