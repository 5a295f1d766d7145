/- E, a reader of Go's code as the model has it: a contract of a function is proved over values that are told without memory (EC). -/
import Derived.Test.YtjeafkodcmbabaaDoorEB

set_option linter.unusedVariables false
set_option linter.unusedSimpArgs false
open Go
namespace Go.Proofs.YtjeafkodcmbabaaDoor.E
set_option linter.unusedVariables false
set_option linter.unusedSimpArgs false
/-! ## Functions and calls -/
def HOk (h h' : List (Nat × Blk)) : Prop := ∀ p ∈ h', p ∈ h

/-- What a function tells of arguments, and of the blocks that they lead to. -/
def Fn (P : Program) (f : FuncId) (args : List AV) (hin : List (Nat × Blk)) (R : AV → List (Nat × Blk) → Prop) : Prop :=
  ∀ ρ F w (vs : List Value), HRel ρ F hin w → VRs ρ F w args vs →
    Calls P f vs.toArray w fun e w' => ∃ v ρ' F' r h, e = .returned v ∧ R r h ∧ VR ρ' F' w' r v ∧ HRel ρ' F' h w' ∧ Fr ρ F w ρ' F' w'

theorem Fn.mono {P f args hin R R'} (h : Fn P f args hin R) (hr : ∀ r h, R r h → R' r h) : Fn P f args hin R' := fun ρ F w vs h1 h2 =>
  (h ρ F w vs h1 h2).mono fun e w' ⟨v, ρ', F', r, h, he, hR, rest⟩ => ⟨v, ρ', F', r, h, he, hr _ _ hR, rest⟩

def args0 : Nat → List AV → List (Nat × AV)
  | _, [] => []
  | i, a :: r => (i, a) :: args0 (i + 1) r
theorem mem_args0 {ρ F w} : ∀ {i : Nat} {as : List AV} {vs : List Value} {t : Nat} {v : AV}, VRs ρ F w as vs → (t, v) ∈ args0 i as → i ≤ t ∧ ∃ u, vs[t - i]? = some u ∧ VR ρ F w v u
  | i, [], vs, t, v, _, h => by simp [args0] at h
  | i, a :: as, vs, t, v, hv, h => by
    simp only [VRs] at hv
    obtain ⟨u, rest, rfl, hu, hv⟩ := hv
    simp only [args0, List.mem_cons, Prod.mk.injEq] at h
    rcases h with ⟨rfl, rfl⟩ | h
    · exact ⟨Nat.le_refl _, u, by simp, hu⟩
    · obtain ⟨h1, u', h2, h3⟩ := mem_args0 hv h
      refine ⟨by omega, u', ?_, h3⟩
      rw [show t - i = (t - (i + 1)) + 1 by omega]
      simpa using h2

def resOf (P : Program) (st : St) : List ResultVar → Option (List AV)
  | [] => some []
  | .tmp t :: r => (get? t st.t).bind fun v => (resOf P st r).map (v :: ·)
  | .cell a t :: r => (get? a st.t).bind fun x => (ld P t st.h x).bind fun v => (resOf P st r).map (v :: ·)

def one? : List AV → AV
  | [v] => v
  | vs => .tup vs

theorem resOf_run {P : Program} {ρ F st a w} (hR : Rel ρ F st a w) : ∀ {rs : List ResultVar} {vs : List AV}, resOf P st rs = some vs →
    ∃ us : List Value, (rs.mapM fun | .tmp t => pure (a.tmps.getD t undef) | .cell x t => do loadVar t (← asAddr (a.tmps.getD x undef)) : Sem (List Value)).run P w = .ok us w ∧ VRs ρ F w vs us
  | [], vs, h => by simp [resOf] at h; subst h; exact ⟨[], by simp, by simp [VRs]⟩
  | .tmp t :: r, vs, h => by
    simp only [resOf, Option.bind_eq_some_iff, Option.map_eq_some_iff] at h
    obtain ⟨v, hv, vs', hvs, rfl⟩ := h
    obtain ⟨us, hus, hr⟩ := resOf_run hR hvs
    refine ⟨a.tmps.getD t undef :: us, ?_, _, us, rfl, (hR.tmps t _ (get?_mem hv)).2, hr⟩
    simp only [List.mapM_cons, Sem.run_bind, Sem.run_pure, Result.andThen, hus]
  | .cell x t :: r, vs, h => by
    simp only [resOf, Option.bind_eq_some_iff, Option.map_eq_some_iff] at h
    obtain ⟨c, hc, v, hv, vs', hvs, rfl⟩ := h
    obtain ⟨us, hus, hr⟩ := resOf_run hR hvs
    obtain ⟨u, hu, hur⟩ := ld_run hR.heap (hR.tmps x _ (get?_mem hc)).2 hv
    have hu' : (do loadVar t (← asAddr (a.tmps.getD x undef)) : Sem Value).run P w = .ok u w := by
      have hcr := (hR.tmps x _ (get?_mem hc)).2
      revert hu
      generalize a.tmps.getD x undef = y at *
      intro hu
      have : ∃ ad, y = .pointer (some ad) := by
        cases c <;> simp only [ld] at hv <;> try (cases hv; done)
        · simp only [VR] at hcr; obtain ⟨_, _, _, rfl⟩ := hcr; exact ⟨_, rfl⟩
        · simp only [VR] at hcr; obtain ⟨_, _, rfl, _⟩ := hcr; exact ⟨_, rfl⟩
      obtain ⟨ad, rfl⟩ := this
      simpa [Instr.loadAt, Instr.sureAddr, asAddr] using hu
    refine ⟨u :: us, ?_, _, us, rfl, hur, hr⟩
    simp only [List.mapM_cons]
    rw [Sem.run_bind, hu']
    simp only [Result.andThen, Sem.run_bind, hus, Sem.run_pure]

def Kret (P : Program) (fn : Func) (R : AV → List (Nat × Blk) → Prop) : Exit → St → Prop
  | .ret, st | .normal, st => ∃ rs h, resOf P st fn.results.toList = some rs ∧ HOk st.h h ∧ R (one? rs) h
  | _, _ => False

theorem HRel.sub {ρ F h h' w} (hr : HRel ρ F h w) (hs : HOk h h') : HRel ρ F h' w := ⟨fun l B hB => hr.blk l B (hs _ hB), hr.inj, hr.apart, hr.lt, hr.flt, hr.glb⟩

theorem Fn.intro {P : Program} {f : FuncId} {fn : Func} {c : Code} {args : List AV} {hin R} (hf : P.funcs[f]? = some fn) (hb : fn.body = some c)
    (h : AW P c (Kret P fn R) ⟨args.length + (fn.ntmps - args.length), args0 0 args, hin⟩) : Fn P f args hin R := by
  intro ρ F w vs hh hv
  have hl := hv.len
  refine calls_of_wp hf hb (h ρ F _ w _ ⟨hh, by simp [hl], rfl, ?_⟩ ?_)
  · intro t v ht
    obtain ⟨_, u, hu, hr⟩ := mem_args0 hv ht
    have hlt : t < vs.length := (List.getElem?_eq_some_iff.1 hu).1
    refine ⟨by simp only; omega, ?_⟩
    have : (vs.toArray ++ Array.replicate (fn.ntmps - vs.toArray.size) undef).getD t undef = u := by
      rw [Array.getD_eq_getD_getElem?, Array.getElem?_append_left (by simpa using hlt)]
      simp only [List.getElem?_toArray]
      simp at hu
      rw [hu]; rfl
    simp only [this]
    exact hr
  · intro e st' ρ' F' a' w' hk hR hF
    cases e <;> simp only [Kret] at hk <;> try (exact hk.elim)
    all_goals
      obtain ⟨rs, h', hrs, hok, hRR⟩ := hk
      obtain ⟨us, hus, hr⟩ := resOf_run hR hrs
      have hres : (results fn a'.tmps).run P w' = .ok (if h : us.toArray.size = 1 then us.toArray[0] else .tuple us.toArray) w' := by
        simp only [results, Sem.run_bind]
        rw [← Array.toArray_toList (xs := fn.results), List.mapM_toArray]
        simp only [Functor.map, Sem.run_bind', Result.andThen]
        erw [hus]
        rfl
      refine ⟨hR.defers, _, hres, _, ρ', F', one? rs, h', rfl, hRR, ?_, hR.heap.sub hok, hF⟩
      have hlen := hr.len
      cases rs with
      | nil => simp only [VRs] at hr; subst hr; exact ⟨[], by simp, by simp [VRs]⟩
      | cons r1 rs =>
        cases rs with
        | nil =>
          simp only [VRs] at hr
          obtain ⟨u, rest, rfl, hu, rfl⟩ := hr
          simpa [one?] using hu
        | cons r2 rs =>
          simp only [one?, VR]
          refine ⟨us, ?_, hr⟩
          rw [dif_neg (by simp at hlen ⊢; omega)]

/-! ### calls without memory of one's own -/
def callable (P : Program) (g : FuncId) : Bool := (P.funcs[g]?).any fun fn => fn.name != "runtime.NumGoroutine" && fn.body.isSome

theorem run_callFunc {P : Program} {g : FuncId} {w : World} (h : callable P g = true) (args : Array Value) : (callFunc g args).run P w = .ok (.enter g args) w := by
  unfold callable at h
  cases hf : P.funcs[g]? with
  | none => simp [hf] at h
  | some fn =>
    simp only [hf, Option.any_some, Bool.and_eq_true, bne_iff_ne, ne_eq] at h
    have hb : fn.body.isNone = false := by
      cases hb : fn.body with
      | none => rw [hb] at h; simp at h
      | some c => rfl
    have hb2 : ¬ fn.body = none := by intro e; rw [e] at hb; simp at hb
    simp [callFunc, hf, h.1, hb, hb2]

/-- what is called, with what -/
def callOf (st : St) (o : Oper) : Option (FuncId × List AV) := match o.op with
  | .call { callee := .value f, args, .. } => (st.eval f).bind fun
    | .clo g caps => (mapM? st.eval args.toList).map fun as => (g, as ++ caps)
    | _ => none
  | _ => none

theorem mapM?_rel {ρ F st a w} (hR : Rel ρ F st a w) : ∀ {xs : List Operand} {as : List AV}, mapM? st.eval xs = some as → VRs ρ F w as (xs.map a.eval)
  | [], as, h => by simp [mapM?] at h; subst h; simp [VRs]
  | x :: xs, as, h => by
    simp only [mapM?, Option.bind_eq_some_iff, Option.map_eq_some_iff] at h
    obtain ⟨v, hv, rest, hr, rfl⟩ := h
    exact ⟨_, _, rfl, hR.get hv, mapM?_rel hR hr⟩

theorem callOf_run {P : Program} {ρ F st a w} (hR : Rel ρ F st a w) {o : Oper} {g : FuncId} {as : List AV} (h : callOf st o = some (g, as)) (hc : callable P g = true) :
    ∃ vs : List Value, (execOp a.eval o).run P w = .ok (.enter g vs.toArray) w ∧ VRs ρ F w as vs := by
  obtain ⟨dst, op, ty, pos, after, guard⟩ := o
  unfold callOf at h
  split at h
  · rename_i f args ts hop
    simp only at hop
    subst hop
    simp only [Option.bind_eq_some_iff] at h
    obtain ⟨fv, hf, h⟩ := h
    split at h
    · rename_i g' caps
      simp only [Option.map_eq_some_iff, Prod.mk.injEq] at h
      obtain ⟨as', has, rfl, rfl⟩ := h
      have hfr := hR.get hf
      simp only [VR] at hfr
      obtain ⟨cvs, hfe, hcr⟩ := hfr
      refine ⟨args.toList.map a.eval ++ cvs, ?_, (mapM?_rel hR has).append hcr⟩
      have e1 : (args.map a.eval) ++ cvs.toArray = (args.toList.map a.eval ++ cvs).toArray := by
        apply Array.ext'; simp
      simp only [execOp, Sem.run_bind, resolve, hfe, Deferred.ofValue, Sem.run_pure, Result.andThen, invoke, Array.empty_append, run_callFunc hc, e1]
    · cases h
  · cases h

/-- A call whose arguments lead to no block of one's own; what it tells leads to none either. -/
theorem AOps.call {P : Program} {ops : Array Oper} {i : Nat} {rest : List Nat} {K : St → Prop} {st : St} {o : Oper} {g : FuncId} {as : List AV} {R : AV → List (Nat × Blk) → Prop}
    (ho : ops[i]? = some o) (hd : dOk st.n o.dst = true) (hg : gOk ops st o = some true) (hc : callOf st o = some (g, as)) (hcl : callable P g = true) (hfr : frees as = true)
    (hF : Fn P g as [] R) (hk : ∀ r h, R r h → r.free = true ∧ AOps P ops rest K (st.put o.dst r)) : AOps P ops (i :: rest) K st := by
  intro ρ F a w Q hR hQ
  obtain ⟨vs, hrun, hvs⟩ := callOf_run hR hc hcl
  have hw := gOk_rel hR hg
  simp only [wpOps, ho, hw, if_true]
  refine .inl ?_
  simp only [Oper.wp, hrun, Oper.upon]
  have hh : HRel (fun _ => none) F [] w := ⟨by simp, by simp, by simp, by simp, hR.heap.flt, hR.heap.glb⟩
  refine (hF (fun _ => none) F w vs hh (frees_rel _ _ hfr hvs)).mono ?_
  rintro e w' ⟨v, ρ', F', r, h, rfl, hRr, hvr, hhr, hfr'⟩
  obtain ⟨hfree, hk⟩ := hk r h hRr
  -- what is frozen in the end: what was frozen, and what is new and nobody's
  have hcell : ∀ b off v, F b → w.cell? ⟨b, off, none⟩ = some v → w'.cell? ⟨b, off, none⟩ = some v := by
    intro b off v hb hcv
    have hlt := hR.heap.flt b hb
    simp only [World.cell?, hfr'.block b hlt (by simp)] at hcv ⊢
    exact hcv
  have hblk : ∀ k, k < w.heap.size → w'.heap[k]? = w.heap[k]? := fun k hk => hfr'.block k hk (by simp)
  have hR' : Rel ρ F' st a w' := by
    refine ⟨⟨?_, hR.heap.inj, ?_, ?_, hhr.flt, hhr.glb⟩, hR.size, hR.defers, ?_⟩
    · intro l B hB
      rcases hR.heap.blk l B hB with h0 | ⟨r0, m, c, h1, h2, h3, us, h4, h5⟩
      · exact .inl h0
      · refine .inr ⟨r0, m, c, h1, by rw [hblk _ (hR.heap.lt _ _ _ h1)]; exact h2, h3, us, VRs.keep hfr'.froz hcell (fun _ _ h => h) _ _ h4, h5⟩
    · intro l r0 m hl hF'
      rcases hfr'.froz' r0 hF' with h | ⟨_, _, h⟩ | h
      · exact hR.heap.apart l r0 m hl h
      · cases h
      · have := hR.heap.lt _ _ _ hl; omega
    · intro l r0 m hl
      exact Nat.lt_of_lt_of_le (hR.heap.lt _ _ _ hl) hfr'.size
    · intro t u hu
      obtain ⟨h1, h2⟩ := hR.tmps t u hu
      exact ⟨h1, VR.keep hfr'.froz hcell (fun _ _ h => h) _ _ h2⟩
  have hf2 : Fr ρ F w ρ F' w' := {
    os := hfr'.os
    tape := hfr'.tape
    output := hfr'.output
    size := hfr'.size
    block := fun k hk _ => hblk k hk
    froz := hfr'.froz
    froz' := fun b hb => by
      rcases hfr'.froz' b hb with h | ⟨_, _, h⟩ | h
      · exact .inl h
      · cases h
      · exact .inr (.inr h)
    own := fun l r m hl => .inl ⟨l, m, hl⟩
    same := fun l _ x y h h' => by rw [h] at h'; exact Option.some.inj h'
    gone := fun l _ h => h }
  exact hk ρ F' _ w' Q (hR'.put (dOk_lt hd) (free_rel _ _ hfree hvr)) fun st' ρ'' F'' a' w'' h1 h2 h3 => hQ st' ρ'' F'' a' w'' h1 h2 (hf2.trans h3)
end Go.Proofs.YtjeafkodcmbabaaDoor.E

namespace Go.Proofs.YtjeafkodcmbabaaDoor.E
set_option linter.unusedVariables false
set_option linter.unusedSimpArgs false
/-! ## Regions whose order is drawn -/
def dpreds (o : Oper) : List Nat := (o.after.toList.filter fun e => Region.binds .any e).map (·.on)

def masks : List Oper → List Nat → List Nat
  | [], acc => acc
  | o :: r, acc => masks r (acc ++ [(dpreds o).foldl (fun s j => s ||| 2 ^ j ||| acc.getD j 0) 0])

def edgesOk : Nat → List Oper → Bool
  | _, [] => true
  | i, o :: r => (dpreds o).all (fun j => decide (j < i)) && edgesOk (i + 1) r

/-- from m on each operation stands behind all that are ahead of it -/
def tailOk (ops : Array Oper) (m : Nat) : Bool :=
  edgesOk 0 ops.toList && ((List.range ops.size).all fun k => decide (k < m) || (masks ops.toList []).getD k 0 % 2 ^ k == 2 ^ k - 1)

theorem edgesOk_lt : ∀ {l : List Oper} {s : Nat}, edgesOk s l = true → ∀ (i : Nat) (o : Oper), l[i]? = some o → ∀ j ∈ dpreds o, j < s + i
  | [], s, _, i, o, h, _, _ => by simp at h
  | o' :: r, s, h, i, o, ho, j, hj => by
    simp only [edgesOk, Bool.and_eq_true] at h
    cases i with
    | zero => simp at ho; subst ho; simpa using List.all_eq_true.1 h.1 j hj
    | succ i => have := edgesOk_lt h.2 i o (by simpa using ho) j hj; omega

theorem foldl_bits (acc : List Nat) : ∀ (l : List Nat) (s b : Nat), (l.foldl (fun s j => s ||| 2 ^ j ||| acc.getD j 0) s).testBit b = true → s.testBit b = true ∨ ∃ j ∈ l, b = j ∨ (acc.getD j 0).testBit b = true
  | [], s, b, h => .inl h
  | j :: l, s, b, h => by
    simp only [List.foldl_cons] at h
    rcases foldl_bits acc l _ b h with h | ⟨k, hk, h⟩
    · simp only [Nat.testBit_or, Bool.or_eq_true] at h
      rcases h with (h | h) | h
      · exact .inl h
      · refine .inr ⟨j, by simp, .inl ?_⟩
        rw [Nat.testBit_two_pow] at h
        exact (of_decide_eq_true h).symm
      · exact .inr ⟨j, by simp, .inr h⟩
    · exact .inr ⟨k, by simp [hk], h⟩

theorem masks_bits (ops : List Oper) (S : Nat → Prop) (hcl : ∀ (i : Nat) (o : Oper), ops[i]? = some o → S i → ∀ j ∈ dpreds o, S j) :
    ∀ (r : List Oper) (pre : List Oper) (acc : List Nat), ops = pre ++ r → acc.length = pre.length →
      (∀ (k : Nat) (o : Oper), k < pre.length → ops[k]? = some o → (∀ j ∈ dpreds o, S j) → ∀ b, (acc.getD k 0).testBit b = true → S b) →
      ∀ (k : Nat) (o : Oper), ops[k]? = some o → (∀ j ∈ dpreds o, S j) → ∀ b, ((masks r acc).getD k 0).testBit b = true → S b
  | [], pre, acc, he, hl, h, k, o, ho, hj, b, hb => h k o (by have := (List.getElem?_eq_some_iff.1 ho).1; rw [he] at this; simpa using this) ho hj b hb
  | o' :: r, pre, acc, he, hl, h, k, o, ho, hj, b, hb => by
    simp only [masks] at hb
    refine masks_bits ops S hcl r (pre ++ [o']) _ (by simp [he]) (by simp [hl]) ?_ k o ho hj b hb
    intro k o hk ho hj b hb
    simp only [List.length_append, List.length_singleton] at hk
    by_cases hkl : k < pre.length
    · rw [List.getD_eq_getElem?_getD, List.getElem?_append_left (by omega), ← List.getD_eq_getElem?_getD] at hb
      exact h k o hkl ho hj b hb
    · have hk' : k = pre.length := by omega
      subst hk'
      have hoo : o' = o := by rw [he, List.getElem?_append_right (Nat.le_refl _)] at ho; simpa using ho
      subst hoo
      rw [List.getD_eq_getElem?_getD, List.getElem?_append_right (by omega), hl] at hb
      simp only [Nat.sub_self, List.getElem?_cons_zero, Option.getD_some] at hb
      rcases foldl_bits acc _ _ _ hb with h0 | ⟨j, hjm, rfl | h1⟩
      · simp at h0
      · exact hj _ hjm
      · have hjS := hj j hjm
        by_cases hjl : j < pre.length
        · have hjo : ops[j]? = some ops[j]! := by
            have : j < ops.length := by rw [he]; simp; omega
            simp [this]
          exact h j _ hjl hjo (hcl j _ hjo hjS) b h1
        · rw [List.getD_eq_getElem?_getD, List.getElem?_eq_none (by omega)] at h1
          simp at h1

/-- what is told of an operation that may stand anywhere: its value, and a block that it makes -/
def dEval (P : Program) (vw : St) (o : Oper) : Option (AV × Option Blk) := match o.op, o.dst with
  | .alloc e, some d => (tZero P e).bind fun zs => if zs.all Value.oneCell' then some (.ptr (lab d) 0, some ⟨e, true, zs.map .val⟩) else none
  | .makeSlice t l c, some d => (vw.eval l).bind fun l => (vw.eval c).bind fun c => (intOf? l).bind fun l => (intOf? c).bind fun c => (cMake P t l c).map fun p => (.ref (lab d) 0 l.toNat p.2.1, some ⟨p.1, false, p.2.2⟩)
  | .buildSlice t n ps, some d => (vw.parts ps.toList).bind fun vs => if vs.all fun p => p.2.fits then (cBuild P t n vs).map fun p => (.sl n p.2.2, none) else none
  | op, _ => (pureOp P vw op).map fun v => (v, none)

/-- a state with some operations' values -/
def entry? (d : Option Tmp) (v : AV) : List (Nat × AV) := match d with | some d => [(d, v)] | none => []
def bentry? (d : Option Tmp) (B : Option Blk) : List (Nat × Blk) := match d, B with | some d, some B => [(lab d, B)] | _, _ => []
def partT (S : Nat → Bool) : Nat → List Oper → List (AV × Option Blk) → List (Nat × AV)
  | i, o :: os, v :: vs => (if S i then entry? o.dst v.1 else []) ++ partT S (i + 1) os vs
  | _, _, _ => []
def partH (S : Nat → Bool) : Nat → List Oper → List (AV × Option Blk) → List (Nat × Blk)
  | i, o :: os, v :: vs => (if S i then bentry? o.dst v.2 else []) ++ partH S (i + 1) os vs
  | _, _, _ => []
theorem mem_partT {S : Nat → Bool} {p : Nat × AV} : ∀ {os : List Oper} {vs : List (AV × Option Blk)} {s : Nat}, p ∈ partT S s os vs ↔ ∃ i o v, os[i]? = some o ∧ vs[i]? = some v ∧ S (s + i) = true ∧ o.dst = some p.1 ∧ v.1 = p.2
  | [], vs, s => by simp [partT]
  | o :: os, [], s => by simp [partT]
  | o :: os, v :: vs, s => by
    simp only [partT, List.mem_append, mem_partT (os := os) (vs := vs) (s := s + 1)]
    constructor
    · rintro (h | ⟨i, o', v', h1, h2, h3, h4, h5⟩)
      · split at h
        · rename_i hs
          cases hd : o.dst with
          | none => simp [entry?, hd] at h
          | some d => simp only [entry?, hd, List.mem_singleton] at h; subst h; exact ⟨0, o, v, by simp, by simp, by simpa using hs, hd, rfl⟩
        · cases h
      · exact ⟨i + 1, o', v', by simpa using h1, by simpa using h2, by rw [show s + (i + 1) = s + 1 + i by omega]; exact h3, h4, h5⟩
    · rintro ⟨i, o', v', h1, h2, h3, h4, h5⟩
      cases i with
      | zero =>
        simp at h1 h2 h3; subst h1; subst h2
        left; rw [if_pos h3]; simp only [entry?, h4, List.mem_singleton]; rw [h5]
      | succ i => exact .inr ⟨i, o', v', by simpa using h1, by simpa using h2, by rw [show s + 1 + i = s + (i + 1) by omega]; exact h3, h4, h5⟩
theorem mem_partH {S : Nat → Bool} {p : Nat × Blk} : ∀ {os : List Oper} {vs : List (AV × Option Blk)} {s : Nat}, p ∈ partH S s os vs ↔ ∃ i o v d, os[i]? = some o ∧ vs[i]? = some v ∧ S (s + i) = true ∧ o.dst = some d ∧ lab d = p.1 ∧ v.2 = some p.2
  | [], vs, s => by simp [partH]
  | o :: os, [], s => by simp [partH]
  | o :: os, v :: vs, s => by
    simp only [partH, List.mem_append, mem_partH (os := os) (vs := vs) (s := s + 1)]
    constructor
    · rintro (h | ⟨i, o', v', d, h1, h2, h3, h4, h5⟩)
      · split at h
        · rename_i hs
          cases hd : o.dst with
          | none => simp [bentry?, hd] at h
          | some d =>
            cases hb : v.2 with
            | none => simp [bentry?, hd, hb] at h
            | some B => simp only [bentry?, hd, hb, List.mem_singleton] at h; subst h; exact ⟨0, o, v, d, by simp, by simp, by simpa using hs, hd, rfl, hb⟩
        · cases h
      · exact ⟨i + 1, o', v', d, by simpa using h1, by simpa using h2, by rw [show s + (i + 1) = s + 1 + i by omega]; exact h3, h4, h5⟩
    · rintro ⟨i, o', v', d, h1, h2, h3, h4, h5, h6⟩
      cases i with
      | zero =>
        simp at h1 h2 h3; subst h1; subst h2
        left; rw [if_pos h3]; simp [bentry?, h4, h6, h5]
      | succ i => exact .inr ⟨i, o', v', d, by simpa using h1, by simpa using h2, by rw [show s + 1 + i = s + (i + 1) by omega]; exact h3, h4, h5, h6⟩

/-- the slots that a region's operations write -/
def dsts : List Oper → List Nat
  | [] => []
  | o :: r => (match o.dst with | some d => [d] | none => []) ++ dsts r
def dropTs (ks : List Nat) : List (Nat × AV) → List (Nat × AV)
  | [] => []
  | (k, v) :: r => if ks.contains k then dropTs ks r else (k, v) :: dropTs ks r
theorem mem_dropTs {ks : List Nat} {p : Nat × AV} : ∀ {l}, p ∈ dropTs ks l → p ∈ l ∧ p.1 ∉ ks
  | [], h => by simp [dropTs] at h
  | (k, v) :: r, h => by
    simp only [dropTs] at h
    split at h
    · exact ⟨List.mem_cons_of_mem _ (mem_dropTs h).1, (mem_dropTs h).2⟩
    · rename_i hk
      rcases List.mem_cons.1 h with rfl | h
      · exact ⟨by simp, by simpa using hk⟩
      · exact ⟨List.mem_cons_of_mem _ (mem_dropTs h).1, (mem_dropTs h).2⟩

theorem mem_dropTs' {ks : List Nat} {p : Nat × AV} : ∀ {l}, p ∈ l → p.1 ∉ ks → p ∈ dropTs ks l
  | [], h, _ => by cases h
  | (k, v) :: r, h, hk => by
    simp only [dropTs]
    split
    · rename_i hc
      rcases List.mem_cons.1 h with rfl | h
      · exact absurd (by simpa using hc) hk
      · exact mem_dropTs' h hk
    · rcases List.mem_cons.1 h with rfl | h
      · simp
      · exact List.mem_cons_of_mem _ (mem_dropTs' h hk)
/-- the slots that the operations which are done have written -/
def dstsS (S : Nat → Bool) : Nat → List Oper → List Nat
  | _, [] => []
  | i, o :: r => (match o.dst, S i with | some d, true => [d] | _, _ => []) ++ dstsS S (i + 1) r
theorem mem_dstsS {S : Nat → Bool} {d : Nat} : ∀ {os : List Oper} {s : Nat}, d ∈ dstsS S s os ↔ ∃ i o, os[i]? = some o ∧ S (s + i) = true ∧ o.dst = some d
  | [], s => by simp [dstsS]
  | o :: r, s => by
    simp only [dstsS, List.mem_append, mem_dstsS (os := r)]
    constructor
    · rintro (h | ⟨i, o', h1, h2, h3⟩)
      · refine ⟨0, o, by simp, ?_⟩
        cases hd : o.dst <;> cases hS : S s <;> simp only [hd, hS] at h <;> try (cases h; done)
        simp only [List.mem_singleton] at h
        subst h
        exact ⟨by simp, rfl⟩
      · exact ⟨i + 1, o', by simpa using h1, by rw [show s + (i + 1) = s + 1 + i by omega]; exact h2, h3⟩
    · rintro ⟨i, o', h1, h2, h3⟩
      cases i with
      | zero =>
        simp only [List.getElem?_cons_zero, Option.some.injEq] at h1
        subst h1
        left
        rw [h3, show S s = true by simpa using h2]
        simp
      | succ i => exact .inr ⟨i, o', by simpa using h1, by rw [show s + 1 + i = s + (i + 1) by omega]; exact h2, h3⟩
theorem dstsS_true : ∀ (os : List Oper) (s : Nat), dstsS (fun _ => true) s os = dsts os
  | [], s => rfl
  | o :: r, s => by simp only [dstsS, dsts, dstsS_true r]; cases o.dst <;> rfl
/-- the state that stands for those operations being done -/
def dSt (st : St) (os : List Oper) (vs : List (AV × Option Blk)) (S : Nat → Bool) : St :=
  ⟨st.n, partT S 0 os vs ++ dropTs (dstsS S 0 os) st.t, partH S 0 os vs ++ st.h⟩
/-- what an operation sees -/
def dView (st : St) (os : List Oper) (vs : List (AV × Option Blk)) (o : Oper) : St :=
  ⟨st.n, partT (fun j => (dpreds o).contains j) 0 os vs ++ dropTs (dsts os) st.t, st.h⟩

/-- and slots that are written later alone -/
def dViewL (st : St) (os : List Oper) (vs : List (AV × Option Blk)) (L : List (Nat × AV)) (o : Oper) : St :=
  ⟨st.n, partT (fun j => (dpreds o).contains j) 0 os vs ++ (L ++ dropTs (dsts os) st.t), st.h⟩
def LateOk (st : St) (os : List Oper) (i : Nat) (L : List (Nat × AV)) : Prop := ∀ p ∈ L, p ∈ st.t ∧ ∀ (j : Nat) (o' : Oper), os[j]? = some o' → o'.dst = some p.1 → i ∈ dpreds o'
theorem LateOk.nil (st : St) (os : List Oper) (i : Nat) : LateOk st os i [] := fun p hp => by cases hp
/-! ## A block that nobody writes any more -/
def sub (off k : Nat) (cs : List AV) : List AV := (cs.drop off).take k
theorem sub_all {k : Nat} {cs : List AV} (h : cs.length ≤ k) : sub 0 k cs = cs := by simp [sub, List.take_of_length_le h]
mutual
def frz (l : Nat) (bs : List AV) : AV → AV
  | .ptr k off => if k = l then .fptr (bs.drop off) else .ptr k off
  | .ref k off n z => if k = l then .sl n (sub off (n * z) bs) else .ref k off n z
  | .agg cs => .agg (frzs l bs cs)
  | .tup cs => .tup (frzs l bs cs)
  | .clo f cs => .clo f (frzs l bs cs)
  | .ifc t c => .ifc t (frz l bs c)
  | .val v => .val v
  | .sl n cs => .sl n cs
  | .fptr cs => .fptr cs
  | .emp => .emp
  | .dead => .dead
def frzs (l : Nat) (bs : List AV) : List AV → List AV
  | [] => []
  | c :: cs => frz l bs c :: frzs l bs cs
end
structure Frzn (ρ : Rho) (F F' : Nat → Prop) (w : World) (l : Nat) (bs : List AV) : Prop where
  sub : ∀ b, F b → F' b
  is : ∀ r m, ρ l = some (r, m) → F' r ∧ ∃ vs : List Value, VRs (fun _ => none) F' w bs vs ∧ ∀ (i : Nat) v, vs[i]? = some v → w.cell? ⟨r, i, none⟩ = some v ∧ v.oneCell' = true
theorem Frzn.drop {ρ F F' w l bs} (h : Frzn ρ F F' w l bs) {r m : Nat} (hl : ρ l = some (r, m)) (off : Nat) : ∃ vs, VRs (fun _ => none) F' w (bs.drop off) vs ∧ Froz F' w (some ⟨r, off, none⟩) vs := by
  obtain ⟨hF, vs, hv, hc⟩ := h.is r m hl
  refine ⟨vs.drop off, hv.drop off, .inr ⟨r, off, rfl, hF, fun i v hi => ?_⟩⟩
  exact hc (off + i) v (by simpa using hi)
mutual
theorem frz_rel {ρ F F' w l bs} (h : Frzn ρ F F' w l bs) : ∀ (c : AV) (v : Value), VR ρ F w c v → VR (rdel l ρ) F' w (frz l bs c) v
  | .ptr k off, v, hc => by
    simp only [frz]
    split
    · rename_i hk
      subst hk
      simp only [VR] at hc ⊢
      obtain ⟨r, m, hl, rfl⟩ := hc
      obtain ⟨vs, h1, h2⟩ := h.drop hl off
      exact ⟨_, vs, rfl, rfl, h1, h2⟩
    · rename_i hk
      simp only [VR, rdel, if_neg hk] at hc ⊢
      exact hc
  | .ref k off n z, v, hc => by
    simp only [frz]
    split
    · rename_i hk
      subst hk
      simp only [VR] at hc ⊢
      rcases hc with ⟨r, m, cap, hl, rfl, h1, h2, h3⟩ | ⟨rfl, base, rfl⟩
      · obtain ⟨vs, h4, h5⟩ := h.drop hl off
        exact ⟨_, cap, vs.take (n * z), rfl, h1, h3, h4.take _, h5.take _, by simp, by intro a ha _; cases ha; rfl⟩
      · refine ⟨base, 0, [], rfl, Nat.le_refl _, by simp [maxLen], ?_, .inl rfl, fun _ => rfl, fun _ _ hp => absurd hp (Nat.lt_irrefl _)⟩
        simp [sub, VRs]
    · rename_i hk
      simp only [VR, rdel, if_neg hk] at hc ⊢
      exact hc
  | .agg cs, v, hc => by simp only [frz, VR] at hc ⊢; obtain ⟨vs, e, hc⟩ := hc; exact ⟨vs, e, frzs_rel h cs vs hc⟩
  | .tup cs, v, hc => by simp only [frz, VR] at hc ⊢; obtain ⟨vs, e, hc⟩ := hc; exact ⟨vs, e, frzs_rel h cs vs hc⟩
  | .clo f cs, v, hc => by simp only [frz, VR] at hc ⊢; obtain ⟨vs, e, hc⟩ := hc; exact ⟨vs, e, frzs_rel h cs vs hc⟩
  | .ifc t c, v, hc => by simp only [frz, VR] at hc ⊢; obtain ⟨u, e, hc⟩ := hc; exact ⟨u, e, frz_rel h c u hc⟩
  | .val u, v, hc => by simpa only [frz, VR] using hc
  | .sl n cs, v, hc => by simp only [frz]; exact VR.keep (ρ := fun _ => none) h.sub (fun _ _ _ _ h => h) (fun _ _ h => by cases h) (.sl n cs) v (by simpa only [VR] using hc)
  | .fptr cs, v, hc => by simp only [frz]; exact VR.keep (ρ := fun _ => none) h.sub (fun _ _ _ _ h => h) (fun _ _ h => by cases h) (.fptr cs) v (by simpa only [VR] using hc)
  | .emp, v, hc => by simpa only [frz, VR] using hc
  | .dead, v, hc => by simp only [frz, VR]
theorem frzs_rel {ρ F F' w l bs} (h : Frzn ρ F F' w l bs) : ∀ (cs : List AV) (vs : List Value), VRs ρ F w cs vs → VRs (rdel l ρ) F' w (frzs l bs cs) vs
  | [], vs, hc => by simpa only [frzs, VRs] using hc
  | c :: cs, vs, hc => by
    simp only [frzs, VRs] at hc ⊢
    obtain ⟨v, rest, e, hv, hc⟩ := hc
    exact ⟨v, rest, e, frz_rel h c v hv, frzs_rel h cs rest hc⟩
end

/-- Blocks of one's own that are read as if nobody wrote them any more, one after the other. -/
abbrev frzL (ls : List (Nat × List AV)) (as : List AV) : List AV := ls.foldl (fun as q => frzs q.1 q.2 as) as
def FrzOk (h : List (Nat × Blk)) : List (Nat × List AV) → List (Nat × List AV) → Prop
  | _, [] => True
  | done, p :: r => (∃ B, get? p.1 h = some B ∧ ((B.boxy = false ∧ B.cs = p.2) ∨ (frzL done B.cs = p.2 ∧ frees p.2 = true))) ∧ FrzOk h (done ++ [p]) r
/-- What a call in a region that is drawn must be: it reads memory that nobody writes any more, or own blocks that nothing else there writes, of which it tells plain values. -/
def CallF (P : Program) (h : List (Nat × Blk)) (as : List AV) (g : FuncId) (r : AV) : Prop :=
  (frees as = true ∧ r.free = true ∧ Fn P g as [] (fun q _ => q = r)) ∨
  ∃ (ls : List (Nat × List AV)) (x : Value), r = .val x ∧ FrzOk h [] ls ∧ frees (frzL ls as) = true ∧ Fn P g (frzL ls as) [] (fun q _ => q = .val x)
theorem frzL_rel {ρ F h w} (hr : HRel ρ F h w) {ls : List (Nat × List AV)} (hls : FrzOk h [] ls) {as : List AV} {vs : List Value} (hv : VRs ρ F w as vs) :
    ∃ F1 : Nat → Prop, (∀ b, F b → F1 b) ∧ (∀ b, F1 b → b < w.heap.size) ∧ ∃ ρ2 : Rho, VRs ρ2 F1 w (frzL ls as) vs := by
  let F1 : Nat → Prop := fun b => F b ∨ ∃ p ∈ ls, ∃ m, ρ p.1 = some (b, m)
  have key : ∀ (rest done : List (Nat × List AV)) (ρ1 : Rho), (∀ p ∈ rest, p ∈ ls) → (∀ l x, ρ1 l = some x → ρ l = some x) → FrzOk h done rest → (∀ as vs, VRs ρ F w as vs → VRs ρ1 F1 w (frzL done as) vs) →
      ∃ ρ2 : Rho, ∀ as vs, VRs ρ F w as vs → VRs ρ2 F1 w (frzL (done ++ rest) as) vs := by
    intro rest
    induction rest with
    | nil => intro done ρ1 _ _ _ h2; exact ⟨ρ1, by simpa only [List.append_nil] using h2⟩
    | cons q qs ih =>
      intro done ρ1 hq h1 hok h2
      obtain ⟨⟨B, hB, hor⟩, hok⟩ := hok
      have e : done ++ q :: qs = (done ++ [q]) ++ qs := by simp
      rw [e]
      refine ih (done ++ [q]) (rdel q.1 ρ1) (fun p hp => hq p (List.mem_cons_of_mem _ hp)) ?_ hok ?_
      · intro l x hx; simp only [rdel] at hx; split at hx; cases hx; exact h1 l x hx
      · intro as vs hvs
        have e2 : frzL (done ++ [q]) as = frzs q.1 q.2 (frzL done as) := by simp only [frzL, List.foldl_append, List.foldl_cons, List.foldl_nil]
        rw [e2]
        have hqm := hq q (by simp)
        refine frzs_rel (F := F1) ⟨fun _ h => h, ?_⟩ _ _ (h2 as vs hvs)
        intro r m hl
        have hl' := h1 _ _ hl
        obtain ⟨c, _, _, us, hv, hv', _, hcs⟩ := hr.cells hB hl'
        refine ⟨.inr ⟨q, hqm, m, hl'⟩, us, ?_, fun i v hi => ⟨(hcs i v hi).2.2, (hcs i v hi).2.1⟩⟩
        rcases hor with ⟨hb, e3⟩ | ⟨e3, hfr⟩
        · rw [← e3]
          rw [hb] at hv'
          exact VRs.keep (ρ := fun _ => none) (fun b h => .inl h) (fun _ _ _ _ h => h) (fun _ _ h => h) _ _ hv'
        · have := h2 B.cs us hv
          rw [e3] at this
          exact frees_rel _ _ hfr this
  obtain ⟨ρ2, hv2⟩ := key ls [] ρ (fun _ h => h) (fun _ _ h => h) hls (fun as vs h => VRs.keep (fun b h => .inl h) (fun _ _ _ _ h => h) (fun _ _ h => h) _ _ h)
  refine ⟨F1, fun _ h => .inl h, ?_, ρ2, by simpa only [List.nil_append] using hv2 as vs hv⟩
  rintro b (hb | ⟨p, hp, m, hl⟩)
  · exact hr.flt b hb
  · exact hr.lt _ b m hl
theorem CallF.run {P : Program} {ρ F h w} {as : List AV} {g : FuncId} {r : AV} {xs : List Value} (hr : HRel ρ F h w) (hc : CallF P h as g r) (hv : VRs ρ F w as xs) :
    Calls P g xs.toArray w fun e w' => ∃ u, ∃ (ρ' : Rho) (F' : Nat → Prop), e = .returned u ∧ (∀ ρ0, VR ρ0 F' w' r u) ∧ Fr (fun _ => none) F w ρ' F' w' ∧ ∀ b, F' b → b < w'.heap.size := by
  rcases hc with ⟨hfr, hvf, hF⟩ | ⟨ls, x, rfl, hls, hfr, hF⟩
  · have hh : HRel (fun _ => none) F [] w := ⟨by simp, by simp, by simp, by simp, hr.flt, hr.glb⟩
    refine (hF (fun _ => none) F w xs hh (frees_rel _ _ hfr hv)).mono ?_
    rintro e w' ⟨u, ρ', F', r, h, rfl, rfl, hvr, hhr, hfr'⟩
    exact ⟨u, ρ', F', rfl, fun ρ0 => free_rel _ _ hvf hvr, hfr', hhr.flt⟩
  · obtain ⟨F1, hsub, hlt, ρ2, hv2⟩ := frzL_rel hr hls hv
    have hh : HRel (fun _ => none) F1 [] w := ⟨by simp, by simp, by simp, by simp, hlt, fun k v hk => ⟨hsub _ (hr.glb k v hk).1, (hr.glb k v hk).2⟩⟩
    refine (hF (fun _ => none) F1 w xs hh (frees_rel _ _ hfr hv2)).mono ?_
    rintro e w' ⟨u, ρ', F', r, h, rfl, rfl, hvr, hhr, hfr'⟩
    simp only [VR] at hvr
    subst hvr
    refine ⟨_, fun _ => none, F, rfl, fun ρ0 => by simp only [VR], ?_, fun b hb => Nat.lt_of_lt_of_le (hr.flt b hb) hfr'.size⟩
    exact {
      os := hfr'.os, tape := hfr'.tape, output := hfr'.output, size := hfr'.size, block := fun k hk _ => hfr'.block k hk (by simp), froz := fun _ h => h
      froz' := fun _ h => .inl h, own := fun _ _ _ h => (by cases h), same := fun _ _ _ _ h => (by cases h), gone := fun _ _ h => h }
/-- what is told of each operation ahead of the tail -/
def DFact (P : Program) (st : St) (ops : Array Oper) (os : List Oper) (vs : List (AV × Option Blk)) (i : Nat) (o : Oper) (v : AV × Option Blk) : Prop :=
  dOk st.n o.dst = true ∧ ∃ L, LateOk st os i L ∧
  ((gOk ops (dViewL st os vs L o) o = some false ∧ v = (.val (.tuple #[]), none)) ∨
   (gOk ops (dViewL st os vs L o) o = some true ∧
    (dEval P (dViewL st os vs L o) o = some v ∨
     ∃ g as, callOf (dViewL st os vs L o) o = some (g, as) ∧ callable P g = true ∧ v.2 = none ∧ CallF P st.h as g v.1)))
end Go.Proofs.YtjeafkodcmbabaaDoor.E

namespace Go.Proofs.YtjeafkodcmbabaaDoor.E
set_option linter.unusedVariables false
set_option linter.unusedSimpArgs false

theorem dsts_mem : ∀ {os : List Oper} {i : Nat} {o : Oper} {d : Tmp}, os[i]? = some o → o.dst = some d → d ∈ dsts os
  | [], i, o, d, h, _ => by simp at h
  | o' :: os, 0, o, d, h, hd => by simp at h; subst h; simp [dsts, hd]
  | o' :: os, i + 1, o, d, h, hd => by simp only [dsts, List.mem_append]; exact .inr (dsts_mem (os := os) (i := i) (by simpa using h) hd)
theorem dsts_inj : ∀ {os : List Oper} {i j : Nat} {o o' : Oper} {d : Tmp}, (dsts os).Nodup → os[i]? = some o → os[j]? = some o' → o.dst = some d → o'.dst = some d → i = j
  | [], i, j, o, o', d, _, h, _, _, _ => by simp at h
  | x :: os, 0, 0, o, o', d, _, _, _, _, _ => rfl
  | x :: os, 0, j + 1, o, o', d, hn, h, h', hd, hd' => by
    simp at h; subst h
    simp only [dsts, hd, List.singleton_append, List.nodup_cons] at hn
    exact absurd (dsts_mem (os := os) (by simpa using h') hd') hn.1
  | x :: os, i + 1, 0, o, o', d, hn, h, h', hd, hd' => by
    simp at h'; subst h'
    simp only [dsts, hd', List.singleton_append, List.nodup_cons] at hn
    exact absurd (dsts_mem (os := os) (by simpa using h) hd) hn.1
  | x :: os, i + 1, j + 1, o, o', d, hn, h, h', hd, hd' => by
    have hn' : (dsts os).Nodup := by
      simp only [dsts] at hn
      exact (List.nodup_append.1 hn).2.1
    have := dsts_inj (os := os) (i := i) (j := j) hn' (by simpa using h) (by simpa using h') hd hd'
    omega

theorem Rel.subset {ρ F st st' a w} (h : Rel ρ F st a w) (hn : st'.n = st.n) (ht : ∀ p ∈ st'.t, p ∈ st.t) (hh : ∀ p ∈ st'.h, p ∈ st.h) : Rel ρ F st' a w :=
  ⟨h.heap.sub hh, by rw [h.size, hn], h.defers, fun t v hv => by rw [hn]; exact h.tmps t v (ht _ hv)⟩

def upd (S : Nat → Bool) (i : Nat) : Nat → Bool := fun j => S j || j == i

structure Inv (st : St) (os : List Oper) (vs : List (AV × Option Blk)) (S : Nat → Bool) (ρ : Rho) (F : Nat → Prop) (a : Act) (w : World) : Prop where
  rel : Rel ρ F (dSt st os vs S) a w
  new : ∀ (i : Nat) (o : Oper) (v : AV × Option Blk) (d : Tmp), os[i]? = some o → vs[i]? = some v → S i = false → o.dst = some d → v.2.isSome = true → ρ (lab d) = none

theorem lab_inj {d d' : Nat} (h : lab d = lab d') : d = d' := by simp only [lab] at h; omega

theorem Inv.finish {st : St} {os : List Oper} {vs : List (AV × Option Blk)} {S : Nat → Bool} {ρ' : Rho} {F' : Nat → Prop} {a : Act} {w' : World} {i : Nat} {o : Oper} {v : AV × Option Blk} {u : Value}
    (hnd : (dsts os).Nodup) (ho : os[i]? = some o) (hv : vs[i]? = some v) (hdn : dOk st.n o.dst = true)
    (hr : Rel ρ' F' ⟨st.n, (dSt st os vs S).t, bentry? o.dst v.2 ++ (dSt st os vs S).h⟩ a w') (hvr : VR ρ' F' w' v.1 u)
    (hnew : ∀ (j : Nat) (o' : Oper) (v' : AV × Option Blk) (d : Tmp), os[j]? = some o' → vs[j]? = some v' → upd S i j = false → o'.dst = some d → v'.2.isSome = true → ρ' (lab d) = none) :
    Inv st os vs (upd S i) ρ' F' (a.put o.dst u) w' := by
  have hput := hr.put (d := o.dst) (v := v.1) (x := u) (dOk_lt hdn) hvr
  have hn0 : ∀ (σ : St) (d : Option Tmp) (v : AV), (σ.put d v).n = σ.n := by intro σ d v; cases d <;> rfl
  refine ⟨⟨?_, by rw [hput.size, hn0]; rfl, hput.defers, ?_⟩, hnew⟩
  · refine HRel.sub hput.heap ?_
    intro p hp
    have hp' : p ∈ bentry? o.dst v.2 ++ (dSt st os vs S).h := by
      simp only [dSt, List.mem_append] at hp ⊢
      rcases hp with hp | hp
      · obtain ⟨j, o', v', d, h1, h2, h3, h4, h5, h6⟩ := mem_partH.1 hp
        simp only [Nat.zero_add, upd, Bool.or_eq_true, beq_iff_eq] at h3
        rcases h3 with h3 | rfl
        · exact .inr (.inl (mem_partH.2 ⟨j, o', v', d, h1, h2, by simpa using h3, h4, h5, h6⟩))
        · rw [ho] at h1; rw [hv] at h2
          cases h1; cases h2
          left; simp only [bentry?, h4, h6, List.mem_singleton]; rw [h5]
      · exact .inr (.inr hp)
    cases hd : o.dst <;> simpa [St.put, hd] using hp'
  · intro t x hx
    simp only [dSt, List.mem_append] at hx
    have old : (t, x) ∈ (dSt st os vs S).t → (∀ d, o.dst = some d → t ≠ d) → t < st.n ∧ VR ρ' F' w' x ((a.put o.dst u).tmps.getD t undef) := by
      intro hm hne
      obtain ⟨h1, h2⟩ := hr.tmps t x hm
      refine ⟨h1, ?_⟩
      cases hd : o.dst with
      | none => exact h2
      | some d =>
        simp only [Act.put]
        rw [getD_set (by rw [hr.size]; exact dOk_lt hdn d hd), if_neg (hne d hd)]
        exact h2
    rcases hx with hx | hx
    · obtain ⟨j, o', v', h1, h2, h3, h4, h5⟩ := mem_partT.1 hx
      simp only at h4 h5
      simp only [Nat.zero_add, upd, Bool.or_eq_true, beq_iff_eq] at h3
      by_cases hji : j = i
      · subst hji
        rw [ho] at h1; rw [hv] at h2
        cases h1; cases h2
        refine ⟨dOk_lt hdn t h4, ?_⟩
        rw [h4]
        simp only [Act.put]
        rw [getD_set (by rw [hr.size]; exact dOk_lt hdn t h4), if_pos rfl, ← h5]
        exact hvr
      · refine old (List.mem_append.2 (.inl (mem_partT.2 ⟨j, o', v', h1, h2, by simpa [hji] using h3, h4, h5⟩))) ?_
        intro d hd e
        subst e
        exact hji (dsts_inj hnd h1 ho h4 hd)
    · have hx' := mem_dropTs hx
      refine old (List.mem_append.2 (.inr (mem_dropTs' hx'.1 fun hm => hx'.2 ?_))) ?_
      · obtain ⟨j, o', h1, h2, h3⟩ := mem_dstsS.1 hm
        exact mem_dstsS.2 ⟨j, o', h1, by simp only [upd]; rw [h2]; rfl, h3⟩
      · intro d hd e
        subst e
        exact hx'.2 (mem_dstsS.2 ⟨i, o, ho, by simp [upd], hd⟩)

/-- what a call leaves: blocks of one's own are as they were -/
theorem Rel.ext {ρ F st a w ρ' F' w'} (hR : Rel ρ F st a w) (hf : Fr (fun _ => none) F w ρ' F' w') (hlt : ∀ b, F' b → b < w'.heap.size) : Rel ρ F' st a w' ∧ Fr ρ F w ρ F' w' := by
  have hcell : ∀ b off v, F b → w.cell? ⟨b, off, none⟩ = some v → w'.cell? ⟨b, off, none⟩ = some v := by
    intro b off v hb hcv
    simp only [World.cell?, hf.block b (hR.heap.flt b hb) (by simp)] at hcv ⊢
    exact hcv
  have hblk : ∀ k, k < w.heap.size → w'.heap[k]? = w.heap[k]? := fun k hk => hf.block k hk (by simp)
  refine ⟨⟨⟨?_, hR.heap.inj, ?_, ?_, hlt, fun k v hk => ⟨hf.froz _ (hR.heap.glb k v hk).1, hcell k 0 v (hR.heap.glb k v hk).1 (hR.heap.glb k v hk).2⟩⟩, hR.size, hR.defers, ?_⟩, ?_⟩
  · intro l B hB
    rcases hR.heap.blk l B hB with h0 | ⟨r0, m, c, h1, h2, h3, us, h4, h5⟩
    · exact .inl h0
    · exact .inr ⟨r0, m, c, h1, by rw [hblk _ (hR.heap.lt _ _ _ h1)]; exact h2, h3, us, VRs.keep hf.froz hcell (fun _ _ h => h) _ _ h4, h5⟩
  · intro l r0 m hl hF'
    rcases hf.froz' r0 hF' with h | ⟨_, _, h⟩ | h
    · exact hR.heap.apart l r0 m hl h
    · cases h
    · have := hR.heap.lt _ _ _ hl; omega
  · intro l r0 m hl
    exact Nat.lt_of_lt_of_le (hR.heap.lt _ _ _ hl) hf.size
  · intro t u hu
    obtain ⟨h1, h2⟩ := hR.tmps t u hu
    exact ⟨h1, VR.keep hf.froz hcell (fun _ _ h => h) _ _ h2⟩
  · exact { os := hf.os, tape := hf.tape, output := hf.output, size := hf.size, block := fun k hk _ => hblk k hk, froz := hf.froz
            froz' := fun b hb => by
              rcases hf.froz' b hb with h | ⟨_, _, h⟩ | h
              · exact .inl h
              · cases h
              · exact .inr (.inr h)
            own := fun l r m hl => .inl ⟨l, m, hl⟩
            same := fun l _ x y h h' => by rw [h] at h'; exact Option.some.inj h'
            gone := fun l _ h => h }

/-- a new block under a label that names none -/
theorem Rel.add {ρ F st a w w' c e} (hR : Rel ρ F st a w) (g : Grew w w' c e) {L : Nat} (hL : ρ L = none) (hLn : ∀ C, (L, C) ∉ st.h) (h1000 : 1000 ≤ L) {B : Blk} (he : B.e = e) {vs : List Value} (hv : VRs (if B.boxy then ρ else fun _ => none) F w B.cs vs) (hle : vs.length ≤ c.size)
    (hc : ∀ (i : Nat) v, vs[i]? = some v → c[i]? = some v ∧ v.oneCell' = true) : Rel (rset L (w.heap.size, c.size) ρ) F ⟨st.n, st.t, (L, B) :: st.h⟩ a w' ∧ Fr ρ F w (rset L (w.heap.size, c.size) ρ) F w' := by
  have ho : ∀ l x, ρ l = some x → rset L (w.heap.size, c.size) ρ l = some x := by
    intro l x hx
    simp only [rset]
    split
    · subst_vars; rw [hL] at hx; cases hx
    · exact hx
  have hh := hR.heap.new g hL he hv hle hc
  refine ⟨⟨⟨?_, hh.inj, hh.apart, hh.lt, hh.flt, hh.glb⟩, hR.size, hR.defers, ?_⟩, Fr.new g hL h1000 _⟩
  · intro l C hC
    rcases List.mem_cons.1 hC with e1 | hCm
    · cases e1; exact hh.blk L B (mem_ins_self _ _ _)
    · rcases hR.heap.blk l C hCm with ⟨h0, h1⟩ | ⟨r, m, c', h1, h2, h3, vs', h4, h5⟩
      · by_cases hl : l = L
        · subst hl; exact absurd hCm (hLn C)
        · exact .inl ⟨h0, by simp only [rset]; rw [if_neg hl]; exact h1⟩
      · refine .inr ⟨r, m, c', ho _ _ h1, by rw [g.old (hR.heap.lt l r m h1)]; exact h2, h3, vs', ?_, h5⟩
        split
        · rename_i hb; simp only [hb, if_true] at h4
          exact VRs.keep (fun _ h => h) (fun b off v _ h => g.cell h) ho _ _ h4
        · rename_i hb; simp only [hb, Bool.false_eq_true, if_false] at h4
          exact VRs.keep (fun _ h => h) (fun b off v _ h => g.cell h) (fun _ _ h => h) _ _ h4
  · intro t v hv
    obtain ⟨h1, h2⟩ := hR.tmps t v hv
    exact ⟨h1, VR.keep (fun _ h => h) (fun b off v _ h => g.cell h) ho _ _ h2⟩

theorem dropd_none {L : Nat} : ∀ (h : List (Nat × Blk)) C, (L, C) ∉ mapH L (del L h) := by
  intro h C hC
  obtain ⟨D, hD, _⟩ := mem_mapH hC
  exact (mem_del hD).2 rfl

/-- the labels that a region's operations make -/
def newLs : List Oper → List (AV × Option Blk) → List Nat
  | o :: os, v :: vs => (match o.dst, v.2 with | some d, some _ => [lab d] | _, _ => []) ++ newLs os vs
  | _, _ => []
def St.drops (st : St) : List Nat → St
  | [] => st
  | l :: ls => (st.drop l).drops ls
def rdels (ρ : Rho) : List Nat → Rho
  | [] => ρ
  | l :: ls => rdels (rdel l ρ) ls
theorem rdels_none {ls : List Nat} {l : Nat} : ∀ {ρ : Rho}, (l ∈ ls ∨ ρ l = none) → rdels ρ ls l = none := by
  induction ls with
  | nil => intro ρ h; simpa [rdels] using h
  | cons k ls ih =>
    intro ρ h
    simp only [rdels]
    apply ih
    rcases h with h | h
    · rcases List.mem_cons.1 h with rfl | h
      · exact .inr (by simp [rdel])
      · exact .inl h
    · right; simp only [rdel]; split <;> simp_all
theorem Rel.drops {F a w} : ∀ (ls : List Nat) {ρ : Rho} {st : St}, Rel ρ F st a w → Rel (rdels ρ ls) F (st.drops ls) a w
  | [], ρ, st, h => h
  | l :: ls, ρ, st, h => Rel.drops ls (h.drop l)
theorem Fr.drops {F w} : ∀ (ls : List Nat) (ρ : Rho), Fr ρ F w (rdels ρ ls) F w
  | [], ρ => Fr.refl _ _ _
  | l :: ls, ρ => (Fr.drop ρ F w l).trans (Fr.drops ls _)
theorem drops_h {l : Nat} : ∀ {ls : List Nat} {st : St}, (l ∈ ls ∨ ∀ C, (l, C) ∉ st.h) → ∀ C, (l, C) ∉ (st.drops ls).h
  | [], st, h, C => by simpa [St.drops] using (h.resolve_left (by simp)) C
  | k :: ls, st, h, C => by
    refine drops_h (ls := ls) (st := st.drop k) ?_ C
    rcases h with h | h
    · rcases List.mem_cons.1 h with rfl | h
      · exact .inr fun C => dropd_none st.h C
      · exact .inl h
    · right
      intro C hC
      obtain ⟨D, hD, _⟩ := mem_mapH hC
      exact h D (mem_del hD).1
theorem newLs_mem : ∀ {os : List Oper} {vs : List (AV × Option Blk)} {i : Nat} {o : Oper} {v : AV × Option Blk} {d : Tmp}, os[i]? = some o → vs[i]? = some v → o.dst = some d → v.2.isSome = true → lab d ∈ newLs os vs
  | [], vs, i, o, v, d, h, _, _, _ => by simp at h
  | o' :: os, [], i, o, v, d, _, h, _, _ => by simp at h
  | o' :: os, v' :: vs, 0, o, v, d, h, h2, hd, hb => by
    simp at h h2; subst h; subst h2
    obtain ⟨B, hB⟩ := Option.isSome_iff_exists.1 hb
    simp [newLs, hd, hB]
  | o' :: os, v' :: vs, i + 1, o, v, d, h, h2, hd, hb => by
    simp only [newLs, List.mem_append]
    exact .inr (newLs_mem (os := os) (by simpa using h) (by simpa using h2) hd hb)

theorem draw_step {P : Program} {ops : Array Oper} {st : St} {os : List Oper} {vs : List (AV × Option Blk)} {S : Nat → Bool} {ρ : Rho} {F : Nat → Prop} {a : Act} {w : World} {i : Nat} {o : Oper} {v : AV × Option Blk}
    (hnd : (dsts os).Nodup) (hno : ∀ (j : Nat) (o' : Oper) (v' : AV × Option Blk) (d : Tmp), os[j]? = some o' → vs[j]? = some v' → o'.dst = some d → v'.2.isSome = true → ∀ C, (lab d, C) ∉ st.h)
    (ho' : ops[i]? = some o) (ho : os[i]? = some o) (hv : vs[i]? = some v) (hS : S i = false) (hp : ∀ j ∈ dpreds o, S j = true) (hcl0 : ∀ (j : Nat) (o' : Oper), os[j]? = some o' → S j = true → ∀ k ∈ dpreds o', S k = true) (hfact : DFact P st ops os vs i o v) (hI : Inv st os vs S ρ F a w)
    {N : Act → World → Prop} {Q : Exit → Act → World → Prop} (hN : ∀ ρ' F' a' w', Inv st os vs (upd S i) ρ' F' a' w' → Fr ρ F w ρ' F' w' → N a' w') : wpOp P ops Q i N a w := by
  obtain ⟨hdn, L, hL, hfact⟩ := hfact
  have hvw : Rel ρ F (dViewL st os vs L o) a w := hI.rel.subset rfl (by
    intro p hp'
    simp only [dViewL, dSt, List.mem_append] at hp' ⊢
    rcases hp' with h | h | h
    · obtain ⟨j, o', v', h1, h2, h3, h4, h5⟩ := mem_partT.1 h
      refine .inl (mem_partT.2 ⟨j, o', v', h1, h2, ?_, h4, h5⟩)
      rw [Nat.zero_add] at h3 ⊢
      exact hp j (by simpa using h3)
    · refine .inr (mem_dropTs' (hL p h).1 fun hm => ?_)
      obtain ⟨j, o', h1, h2, h3⟩ := mem_dstsS.1 hm
      rw [Nat.zero_add] at h2
      have := hcl0 j o' h1 h2 i ((hL p h).2 j o' h1 h3)
      rw [hS] at this; cases this
    · have h' := mem_dropTs h
      refine .inr (mem_dropTs' h'.1 fun hm => h'.2 ?_)
      obtain ⟨j, o', h1, h2, h3⟩ := mem_dstsS.1 hm
      exact dsts_mem h1 h3) (by intro p hp'; simp only [dViewL, dSt, List.mem_append] at hp' ⊢; exact .inr hp')
  have hnew' : ∀ (ρ' : Rho), (∀ l, (∀ d, o.dst = some d → v.2.isSome = true → l ≠ lab d) → ρ' l = ρ l) → ∀ (j : Nat) (o' : Oper) (v' : AV × Option Blk) (d : Tmp), os[j]? = some o' → vs[j]? = some v' → upd S i j = false → o'.dst = some d → v'.2.isSome = true → ρ' (lab d) = none := by
    intro ρ' hρ j o' v' d h1 h2 h3 h4 h5
    simp only [upd, Bool.or_eq_false_iff, beq_eq_false_iff_ne, ne_eq] at h3
    rw [hρ (lab d) ?_]
    · exact hI.new j o' v' d h1 h2 h3.1 h4 h5
    · intro d' hd' _ e
      have := lab_inj e
      subst this
      exact h3.2 (dsts_inj hnd h1 ho h4 hd')
  have hother : ∀ (d : Tmp), o.dst = some d → v.2.isSome = true → ∀ C, (lab d, C) ∉ (dSt st os vs S).h := by
    intro d hd hb C hC
    simp only [dSt, List.mem_append] at hC
    rcases hC with hC | hC
    · obtain ⟨j, o', v', d', h1, h2, h3, h4, h5, h6⟩ := mem_partH.1 hC
      have := lab_inj h5
      subst this
      have := dsts_inj hnd h1 ho h4 hd
      subst this
      rw [Nat.zero_add, hS] at h3
      cases h3
    · exact hno i o v d ho hv hd hb C hC
  -- nothing is made
  have plain : ∀ {u : Value}, v.2 = none → VR ρ F w v.1 u → N (a.put o.dst u) w := by
    intro u hv2 hu
    refine hN ρ F _ w (Inv.finish hnd ho hv hdn (hI.rel.subset rfl (fun _ h => h) ?_) hu (hnew' ρ fun _ _ => rfl)) (Fr.refl _ _ _)
    intro p hp'
    cases hd : o.dst <;> simpa [bentry?, hv2, hd] using hp'
  rcases hfact with ⟨hg, rfl⟩ | ⟨hg, hfact⟩
  · have hw := gOk_rel hvw hg
    simp only [wpOp, ho', hw, Bool.false_eq_true, if_false]
    exact plain rfl (by simp only [VR]; rfl)
  · have hw := gOk_rel hvw hg
    simp only [wpOp, ho', hw, if_true]
    refine .inl ?_
    rcases hfact with hd | ⟨g, as, hc, hcl, hv2, hF⟩
    · unfold dEval at hd
      split at hd
      · rename_i e d hop hdst
        simp only [Option.bind_eq_some_iff] at hd
        obtain ⟨zs, hz, hd⟩ := hd
        split at hd
        · rename_i hone
          cases hd
          obtain ⟨zv, hr, rfl⟩ := run_tZero (w := w) hz
          have hrun : (execOp a.eval o).run P w = .ok (.value (.pointer (some ⟨w.heap.size, 0, none⟩))) (w.alloc (.cells zv.cells e)) := by
            simp [execOp, hop, Instr.alloc, hr, newVar, newRow]
          simp only [Oper.wp, hrun, Oper.upon]
          have hL := hI.new i o _ d ho hv hS hdst rfl
          obtain ⟨hA, hFr⟩ := hI.rel.add (Grew.alloc w zv.cells e) hL (hother d hdst rfl) (by simp [lab]) (B := ⟨e, true, zv.cells.toList.map .val⟩) rfl (vs := zv.cells.toList) (vals_get _) (by simp) (by
            intro j u hu
            exact ⟨by simpa using hu, List.all_eq_true.1 hone u (List.mem_of_getElem? hu)⟩)
          refine hN _ F _ _ (Inv.finish hnd ho hv hdn (hA.subset rfl (fun _ h => h) (by intro p hp'; simpa [bentry?, hdst] using hp')) ?_ (hnew' _ ?_)) hFr
          · simp only [VR]; exact ⟨_, _, by simp [rset]; rfl, rfl⟩
          · intro l hl; simp only [rset]; rw [if_neg (hl d hdst rfl)]
        · cases hd
      · rename_i t l c d hop hdst
        simp only [Option.bind_eq_some_iff, Option.map_eq_some_iff] at hd
        obtain ⟨lv, hlv, cv, hcv, li, hli, ci, hci, ⟨e, z, cs⟩, hmk, rfl⟩ := hd
        obtain ⟨kl, hkl⟩ := intOf_rel hli (hvw.get hlv)
        obtain ⟨kc, hkc⟩ := intOf_rel hci (hvw.get hcv)
        obtain ⟨u, w', hr, hms⟩ := cMake_run (kl := kl) (kc := kc) F w hmk
        obtain ⟨cap, arr, us, rfl, hgr, hvu, hle, hcc, h1, h2, h3⟩ := hms.is
        have hrun : (execOp a.eval o).run P w = .ok (.value (.slice (some ⟨w.heap.size, 0, none⟩) li.toNat cap)) w' := by
          simp only [execOp, hop, hkl, hkc, Sem.run_bind, hr, Result.andThen, Sem.run_pure]
        simp only [Oper.wp, hrun, Oper.upon]
        have hL := hI.new i o _ d ho hv hS hdst rfl
        obtain ⟨hA, hFr⟩ := hI.rel.add hgr hL (hother d hdst rfl) (by simp [lab]) (B := ⟨e, false, cs⟩) rfl (vs := us) hvu hle hcc
        refine hN _ F _ _ (Inv.finish hnd ho hv hdn (hA.subset rfl (fun _ h => h) (by intro p hp'; simpa [bentry?, hdst] using hp')) ?_ (hnew' _ ?_)) hFr
        · simp only [VR]; exact .inl ⟨w.heap.size, _, cap, by simp [rset]; rfl, rfl, h1, by simpa using h2, h3⟩
        · intro l hl; simp only [rset]; rw [if_neg (hl d hdst rfl)]
      · rename_i t n ps d hop hdst
        simp only [Option.bind_eq_some_iff] at hd
        obtain ⟨pvs, hpv, hd⟩ := hd
        split at hd
        · rename_i hf
          simp only [Option.map_eq_some_iff] at hd
          obtain ⟨⟨e, z, cs⟩, hcb, rfl⟩ := hd
          obtain ⟨u, w', hr, hms⟩ := cBuild_run hvw hpv hf hcb
          obtain ⟨cap, arr, us, rfl, hgr, hvu, hle, hcc, h1, h2, h3⟩ := hms.is
          have hrun : (execOp a.eval o).run P w = .ok (.value (.slice (some ⟨w.heap.size, 0, none⟩) n cap)) w' := by
            simp only [execOp, hop, Sem.run_bind, hr, Result.andThen, Sem.run_pure]
          simp only [Oper.wp, hrun, Oper.upon]
          -- the new block is frozen
          have hf0 : Fr (fun _ => none) F w (fun _ => none) (fun b => F b ∨ b = w.heap.size) w' := {
            os := hgr.os, tape := hgr.tape, output := hgr.output, size := by rw [hgr.size]; omega
            block := fun k hk _ => hgr.old hk, froz := fun b hb => .inl hb
            froz' := fun b hb => by rcases hb with hb | rfl; exact .inl hb; exact .inr (.inr (Nat.le_refl _))
            own := fun _ _ _ h => by cases h
            same := fun _ _ _ _ h => by cases h
            gone := fun _ _ h => h }
          obtain ⟨hA, hFr⟩ := hI.rel.ext hf0 (by intro b hb; rw [hgr.size]; rcases hb with hb | rfl; have := hI.rel.heap.flt b hb; omega; omega)
          refine hN _ _ _ _ (Inv.finish hnd ho hv hdn (hA.subset rfl (fun _ h => h) (by intro p hp'; simpa [bentry?, hdst] using hp')) ?_ (hnew' _ fun _ _ => rfl)) hFr
          simp only [VR]
          refine ⟨_, cap, us, rfl, h1, h3, VRs.keep (fun b hb => .inl hb) (fun b off v _ h => hgr.cell h) (fun _ _ h => h) _ _ hvu, ?_, by simp, by intro a h _; cases h; rfl⟩
          refine .inr ⟨_, _, rfl, .inr rfl, ?_⟩
          intro j u hu
          obtain ⟨h4, h5⟩ := hcc j u hu
          exact ⟨by rw [hgr.new.cell]; simpa using h4, h5⟩
        · cases hd
      · simp only [Option.map_eq_some_iff] at hd
        obtain ⟨v0, hpv, rfl⟩ := hd
        obtain ⟨u, hr, hvr⟩ := pureOp_run hvw hpv
        simp only [Oper.wp, hr, Oper.upon]
        exact plain rfl hvr
    · obtain ⟨xs, hrun, hxs⟩ := callOf_run hvw hc hcl
      simp only [Oper.wp, hrun, Oper.upon]
      refine (hF.run hvw.heap hxs).mono ?_
      rintro e w' ⟨u, ρ', F', rfl, hvr, hfr', hlt⟩
      obtain ⟨hA, hFr⟩ := hI.rel.ext hfr' hlt
      refine hN ρ F' _ w' (Inv.finish hnd ho hv hdn (hA.subset rfl (fun _ h => h) ?_) (hvr _) (hnew' ρ fun _ _ => rfl)) hFr
      intro p hp'
      cases hd : o.dst <;> simpa [bentry?, hv2, hd] using hp'
end Go.Proofs.YtjeafkodcmbabaaDoor.E

namespace Go.Proofs.YtjeafkodcmbabaaDoor.E
set_option linter.unusedVariables false
set_option linter.unusedSimpArgs false
def unl : List Bool → Nat
  | [] => 0
  | b :: l => (if b then 0 else 1) + unl l
theorem unl_set : ∀ {l : List Bool} {i : Nat}, l[i]? = some false → unl (l.set i true) + 1 = unl l
  | [], i, h => by simp at h
  | b :: l, 0, h => by simp at h; subst h; simp [unl]; omega
  | b :: l, i + 1, h => by
    have := unl_set (l := l) (i := i) (by simpa using h)
    simp only [List.set_cons_succ, unl]; omega
theorem unl_zero : ∀ {l : List Bool}, unl l = 0 → ∀ (i : Nat) b, l[i]? = some b → b = true
  | [], h, i, b, hb => by simp at hb
  | c :: l, h, i, b, hb => by
    simp only [unl] at h
    cases i with
    | zero => simp at hb; subst hb; cases c <;> simp_all
    | succ i => exact unl_zero (l := l) (by omega) i b (by simpa using hb)
theorem unl_pos : ∀ {l : List Bool}, 0 < unl l → ∃ i : Nat, l[i]? = some false ∧ ∀ j : Nat, j < i → l[j]? = some true
  | [], h => by simp [unl] at h
  | c :: l, h => by
    cases c with
    | false => exact ⟨0, by simp, by simp⟩
    | true =>
      simp only [unl, if_true] at h
      obtain ⟨i, h1, h2⟩ := unl_pos (l := l) (by omega)
      refine ⟨i + 1, by simpa using h1, ?_⟩
      intro j hj
      cases j with
      | zero => simp
      | succ j => simpa using h2 j (by omega)

def ls (listed : Array Bool) : Nat → Bool := fun i => listed.getD i false

theorem ready_iff {ops : Array Oper} {listed : Array Bool} (hs : listed.size = ops.size) {i : Nat} : i ∈ Region.ready .any ops listed ↔ ∃ o, ops[i]? = some o ∧ ls listed i = false ∧ ∀ j ∈ dpreds o, ls listed j = true := by
  simp only [Region.ready, List.mem_filter, List.mem_range, Bool.and_eq_true, Bool.not_eq_true']
  constructor
  · rintro ⟨hi, h1, h2⟩
    obtain ⟨o, ho⟩ : ∃ o, ops[i]? = some o := ⟨_, Array.getElem?_eq_getElem hi⟩
    refine ⟨o, ho, ?_, ?_⟩
    · simp only [ls]
      rw [Array.getD_eq_getD_getElem?, Array.getElem?_eq_getElem (by omega)] at h1 ⊢
      simpa using h1
    · intro j hj
      simp only [ho, Option.map_some, Option.getD_some, Array.all_eq_true'] at h2
      simp only [dpreds, List.mem_map, List.mem_filter, Array.mem_toList_iff] at hj
      obtain ⟨e, ⟨he, hb⟩, rfl⟩ := hj
      have := h2 e he
      simpa [hb, ls] using this
  · rintro ⟨o, ho, h1, h2⟩
    have hi : i < ops.size := (Array.getElem?_eq_some_iff.1 ho).1
    refine ⟨hi, ?_, ?_⟩
    · simp only [ls] at h1
      rw [Array.getD_eq_getD_getElem?, Array.getElem?_eq_getElem (by omega)] at h1 ⊢
      simpa using h1
    · simp only [ho, Option.map_some, Option.getD_some, Array.all_eq_true']
      intro e he
      cases hb : Region.binds .any e with
      | false => simp
      | true =>
        have := h2 e.on (by simp only [dpreds, List.mem_map, List.mem_filter, Array.mem_toList_iff]; exact ⟨e, ⟨he, hb⟩, rfl⟩)
        simpa [ls] using this

theorem ls_set {listed : Array Bool} {i : Nat} (hi : i < listed.size) : ls (listed.setIfInBounds i true) = upd (ls listed) i := by
  funext j
  simp only [ls, upd, Array.getD_eq_getD_getElem?, Array.getElem?_setIfInBounds]
  by_cases h : i = j
  · subst h; simp [hi]
  · have h' : (j == i) = false := by simp; omega
    simp [h, h']

def Closed (ops : Array Oper) (S : Nat → Bool) : Prop := ∀ (i : Nat) (o : Oper), ops[i]? = some o → S i = true → ∀ j ∈ dpreds o, S j = true

theorem tail_all {ops : Array Oper} {m : Nat} (ht : tailOk ops m = true) {S : Nat → Bool} (hc : Closed ops S) {k : Nat} {o : Oper} (ho : ops[k]? = some o) (hm : m ≤ k) (hp : ∀ j ∈ dpreds o, S j = true) : ∀ j, j < k → S j = true := by
  intro j hj
  simp only [tailOk, Bool.and_eq_true, List.all_eq_true, List.mem_range, Bool.or_eq_true, decide_eq_true_eq, beq_iff_eq] at ht
  have hk : k < ops.size := (Array.getElem?_eq_some_iff.1 ho).1
  have h2 := (ht.2 k hk).resolve_left (by omega)
  have hb : ((masks ops.toList []).getD k 0).testBit j = true := by
    have h3 : ((masks ops.toList []).getD k 0 % 2 ^ k).testBit j = true := by
      rw [h2, Nat.testBit_two_pow_sub_one]; simpa using hj
    rw [Nat.testBit_mod_two_pow] at h3
    simp only [Bool.and_eq_true] at h3
    exact h3.2
  exact masks_bits ops.toList (fun i => S i = true) (fun i o ho hi j hj => hc i o (by rw [← Array.getElem?_toList]; exact ho) hi j hj) ops.toList [] [] (by simp) rfl (by simp) k o (by rw [Array.getElem?_toList]; exact ho) hp j hb

theorem tail_any {P : Program} {ops : Array Oper} {Q : Exit → Act → World → Prop} {m : Nat} (ht : tailOk ops m = true) : ∀ (fuel : Nat) {k : Nat} {listed : Array Bool} {a : Act} {w : World}, listed.size = ops.size → m ≤ k → k + fuel = ops.size →
    (∀ j, ls listed j = decide (j < k)) → wpOps P ops Q (List.range' k fuel) a w → wpAny P .any ops Q fuel listed a w := by
  have hedge : ∀ (i : Nat) (o : Oper), ops[i]? = some o → ∀ j ∈ dpreds o, j < i := by
    intro i o ho j hj
    simp only [tailOk, Bool.and_eq_true] at ht
    have := edgesOk_lt ht.1 i o (by rw [Array.getElem?_toList]; exact ho) j hj
    omega
  intro fuel
  induction fuel with
  | zero =>
    intro k listed a w hs hm hk hl h
    refine ⟨?_, by simpa [wpOps] using h⟩
    apply List.eq_nil_iff_forall_not_mem.2
    intro i hi
    obtain ⟨o, ho, h1, _⟩ := (ready_iff hs).1 hi
    have := (Array.getElem?_eq_some_iff.1 ho).1
    rw [hl i] at h1
    simp at h1; omega
  | succ fuel ih =>
    intro k listed a w hs hm hk hl h
    have hkn : k < ops.size := by omega
    obtain ⟨o, ho⟩ : ∃ o, ops[k]? = some o := ⟨_, Array.getElem?_eq_getElem hkn⟩
    have hkr : k ∈ Region.ready .any ops listed := (ready_iff hs).2 ⟨o, ho, by rw [hl]; simp, fun j hj => by rw [hl]; simpa using hedge k o ho j hj⟩
    refine ⟨fun h0 => (by rw [h0] at hkr; cases hkr), ?_⟩
    intro i hi
    obtain ⟨o', ho', h1, h2⟩ := (ready_iff hs).1 hi
    have hcl : Closed ops (ls listed) := by
      intro i o ho hi j hj
      rw [hl] at hi ⊢
      have := hedge i o ho j hj
      simp at hi ⊢; omega
    have hik : i = k := by
      rw [hl] at h1
      simp at h1
      have h3 := tail_all ht hcl ho' (by omega) h2
      rcases Nat.lt_or_ge k i with hlt | hge
      · have := h3 k hlt
        rw [hl] at this
        simp at this
      · omega
    subst hik
    rw [List.range'_succ, wpOps_cons] at h
    refine wpOp_mono (fun a w hh => ?_) h
    refine ih (k := i + 1) (by simpa using hs) (by omega) (by omega) ?_ hh
    intro j
    rw [ls_set (by omega)]
    simp only [upd, hl]
    rcases Nat.lt_trichotomy j i with hj | hj | hj
    · simp [hj, Nat.lt_succ_of_lt hj]
    · simp [hj]
    · have h3 : ¬ j < i := by omega
      have h4 : ¬ j < i + 1 := by omega
      have h5 : j ≠ i := by omega
      simp [h3, h4, h5]

theorem draw_any {P : Program} {ops : Array Oper} {st : St} {os : List Oper} {vs : List (AV × Option Blk)} {m : Nat} {K : St → Prop} {Q : Exit → Act → World → Prop} {ρ0 : Rho} {F0 : Nat → Prop} {w0 : World}
    (hos : os = ops.toList.take m) (hm : m ≤ ops.size) (hvl : vs.length = m) (ht : tailOk ops m = true) (hnd : (dsts os).Nodup)
    (hno : ∀ (j : Nat) (o' : Oper) (v' : AV × Option Blk) (d : Tmp), os[j]? = some o' → vs[j]? = some v' → o'.dst = some d → v'.2.isSome = true → ∀ C, (lab d, C) ∉ st.h)
    (hfact : ∀ (i : Nat) (o : Oper) (v : AV × Option Blk), os[i]? = some o → vs[i]? = some v → DFact P st ops os vs i o v)
    (hT : AOps P ops (List.range' m (ops.size - m)) K (dSt st os vs fun _ => true))
    (hQ : ∀ st' ρ' F' a' w', K st' → Rel ρ' F' st' a' w' → Fr ρ0 F0 w0 ρ' F' w' → Q .normal a' w') :
    ∀ (fuel : Nat) {listed : Array Bool} {a : Act} {w : World} {ρ : Rho} {F : Nat → Prop}, listed.size = ops.size → unl listed.toList = fuel → Closed ops (ls listed) → (∀ i, ls listed i = true → i < m) →
      Inv st os vs (ls listed) ρ F a w → Fr ρ0 F0 w0 ρ F w → wpAny P .any ops Q fuel listed a w := by
  have hedge : ∀ (i : Nat) (o : Oper), ops[i]? = some o → ∀ j ∈ dpreds o, j < i := by
    intro i o ho j hj
    simp only [tailOk, Bool.and_eq_true] at ht
    have := edgesOk_lt ht.1 i o (by rw [Array.getElem?_toList]; exact ho) j hj
    omega
  have hosget : ∀ i, i < m → os[i]? = ops[i]? := by
    intro i hi; rw [hos, List.getElem?_take, if_pos hi, Array.getElem?_toList]
  -- all ahead of the tail is done
  have full : ∀ (fuel : Nat) {listed : Array Bool} {a : Act} {w : World} {ρ : Rho} {F : Nat → Prop}, listed.size = ops.size → unl listed.toList = fuel → (∀ i, ls listed i = decide (i < m)) →
      Inv st os vs (ls listed) ρ F a w → Fr ρ0 F0 w0 ρ F w → wpAny P .any ops Q fuel listed a w := by
    intro fuel listed a w ρ F hs hu hl hI hFr
    have hfuel : fuel = ops.size - m := by
      have key : ∀ (l : List Bool) (s : Nat), (∀ (i : Nat) b, l[i]? = some b → b = decide (s + i < m)) → unl l = (s + l.length - m) - (s - m) := by
        intro l
        induction l with
        | nil => intro s _; simp [unl]
        | cons b l ih =>
          intro s h
          have h0 := h 0 b (by simp)
          have h1 := ih (s + 1) (fun i b hb => by have := h (i + 1) b (by simpa using hb); rw [this]; congr 1; apply propext; constructor <;> intro <;> omega)
          simp only [unl, h1, List.length_cons]
          rw [h0]
          by_cases hsm : s + 0 < m
          · rw [if_pos (by simpa using hsm)]; omega
          · rw [if_neg (by simpa using hsm)]; omega
      have := key listed.toList 0 (by
        intro i b hb
        have h1 := hl i
        have hlt : i < listed.size := by have := (List.getElem?_eq_some_iff.1 hb).1; simpa using this
        rw [Nat.zero_add, ← h1]
        simp only [ls, Array.getD_eq_getD_getElem?, ← Array.getElem?_toList, hb]; rfl)
      rw [hu] at this
      simp at this; omega
    subst hfuel
    refine tail_any ht _ (k := m) hs (Nat.le_refl _) (by omega) hl ?_
    refine hT ρ F a w Q (hI.rel.subset rfl ?_ ?_) (fun st' ρ' F' a' w' h1 h2 h3 => hQ st' ρ' F' a' w' h1 h2 (hFr.trans h3))
    · intro p hp
      simp only [dSt, List.mem_append] at hp ⊢
      rcases hp with hp | hp
      · obtain ⟨i, o, v, h1, h2, _, h4, h5⟩ := mem_partT.1 hp
        refine .inl (mem_partT.2 ⟨i, o, v, h1, h2, ?_, h4, h5⟩)
        have := (List.getElem?_eq_some_iff.1 h2).1
        rw [hl]; simp; omega
      · have hp' := mem_dropTs hp
        refine .inr (mem_dropTs' hp'.1 fun hm => hp'.2 ?_)
        obtain ⟨j, o', h1, h2, h3⟩ := mem_dstsS.1 hm
        exact mem_dstsS.2 ⟨j, o', h1, rfl, h3⟩
    · intro p hp
      simp only [dSt, List.mem_append] at hp ⊢
      rcases hp with hp | hp
      · obtain ⟨i, o, v, d, h1, h2, _, h4, h5⟩ := mem_partH.1 hp
        refine .inl (mem_partH.2 ⟨i, o, v, d, h1, h2, ?_, h4, h5⟩)
        have := (List.getElem?_eq_some_iff.1 h2).1
        rw [hl]; simp; omega
      · exact .inr hp
  intro fuel
  induction fuel with
  | zero =>
    intro listed a w ρ F hs hu hc hlm hI hFr
    refine full 0 hs hu ?_ hI hFr
    intro i
    cases hli : ls listed i with
    | true => have := hlm i hli; simp [this]
    | false =>
      by_cases him : i < m
      · exfalso
        have hlt : i < listed.size := by omega
        have hb : listed.toList[i]? = some listed[i] := by simp [hlt]
        have := unl_zero hu i _ hb
        simp only [ls, Array.getD_eq_getD_getElem?, Array.getElem?_eq_getElem hlt] at hli
        rw [this] at hli
        simp at hli
      · simp [him]
  | succ fuel ih =>
    intro listed a w ρ F hs hu hc hlm hI hFr
    by_cases hfull : ∀ i, ls listed i = decide (i < m)
    · exact full _ hs hu hfull hI hFr
    · obtain ⟨i0, h1, h2⟩ := unl_pos (l := listed.toList) (by omega)
      have hi0 : i0 < listed.size := by have := (List.getElem?_eq_some_iff.1 h1).1; simpa using this
      have hls : ∀ (i : Nat) b, listed.toList[i]? = some b → ls listed i = b := by
        intro i b hb; simp only [ls, Array.getD_eq_getD_getElem?, ← Array.getElem?_toList, hb]; rfl
      obtain ⟨o0, ho0⟩ : ∃ o, ops[i0]? = some o := ⟨_, Array.getElem?_eq_getElem (by omega)⟩
      have hr0 : i0 ∈ Region.ready .any ops listed := (ready_iff hs).2 ⟨o0, ho0, hls _ _ h1, fun j hj => hls _ _ (h2 j (hedge i0 o0 ho0 j hj))⟩
      refine ⟨fun h0 => (by rw [h0] at hr0; cases hr0), ?_⟩
      intro i hi
      obtain ⟨o, ho, hli, hp⟩ := (ready_iff hs).1 hi
      have him : i < m := by
        rcases Nat.lt_or_ge i m with h | h
        · exact h
        · exfalso
          apply hfull
          have h3 := tail_all ht hc ho h hp
          intro j
          cases hlj : ls listed j with
          | true => have := hlm j hlj; simp [this]
          | false =>
            by_cases hjm : j < m
            · have := h3 j (by omega); rw [hlj] at this; cases this
            · simp [hjm]
      have hoi : os[i]? = some o := by rw [hosget i him]; exact ho
      obtain ⟨v, hv⟩ : ∃ v, vs[i]? = some v := ⟨_, List.getElem?_eq_getElem (by omega)⟩
      refine draw_step hnd hno ho hoi hv hli hp (fun j o' h1 h2 => hc j o' (by
        have hjm : j < m := by
          rw [hos, List.getElem?_take] at h1
          split at h1
          · assumption
          · cases h1
        rw [← hosget j hjm]; exact h1) h2) (hfact i o v hoi hv) hI ?_
      intro ρ' F' a' w' hI' hFr'
      have hlt : i < listed.size := by have := (Array.getElem?_eq_some_iff.1 ho).1; omega
      have hset := ls_set hlt
      refine ih (by simpa using hs) ?_ ?_ ?_ (by rw [hset]; exact hI') (hFr.trans hFr')
      · have hb : listed.toList[i]? = some false := by
          have h9 : listed.toList[i]? = some listed[i] := by simp [hlt]
          rw [h9]; congr 1
          have := hls i _ h9
          rw [← this]; exact hli
        have := unl_set hb
        simp only [Array.toList_setIfInBounds]
        omega
      · rw [hset]
        intro j o' ho' hj k hk
        simp only [upd, Bool.or_eq_true, beq_iff_eq] at hj ⊢
        rcases hj with hj | rfl
        · exact .inl (hc j o' ho' hj k hk)
        · rw [ho] at ho'; cases ho'; exact .inl (hp k hk)
      · rw [hset]
        intro j hj
        simp only [upd, Bool.or_eq_true, beq_iff_eq] at hj
        rcases hj with hj | rfl
        · exact hlm j hj
        · exact him

/-- A region whose order is drawn. -/
theorem AW.draw {P : Program} {id : Nat} {ops : Array Oper} {K : Exit → St → Prop} {st : St} (hmix : P.follows .mixedOrders = true) (m : Nat) (Ls : List Nat) (vs : List (AV × Option Blk)) (hm : m ≤ ops.size) (hvl : vs.length = m) (ht : tailOk ops m = true)
    (hnd : (dsts (ops.toList.take m)).Nodup) (hLs : ∀ l ∈ newLs (ops.toList.take m) vs, l ∈ Ls)
    (hfact : ∀ (i : Nat) (o : Oper) (v : AV × Option Blk), (ops.toList.take m)[i]? = some o → vs[i]? = some v → DFact P (st.drops Ls) ops (ops.toList.take m) vs i o v)
    (hT : AOps P ops (List.range' m (ops.size - m)) (K .normal) (dSt (st.drops Ls) (ops.toList.take m) vs fun _ => true)) : AW P (.region id ops true) K st := by
  intro ρ F a w Q hR hQ
  have hR1 := Rel.drops Ls hR
  have hF1 := Fr.drops (F := F) (w := w) Ls ρ
  refine wp_region_any hmix ?_
  -- one answer drawn
  have hw1 : Rel (rdels ρ Ls) F (st.drops Ls) a { w with drawn := w.drawn + 1 } :=
    ⟨⟨fun l B hB => by
        rcases hR1.heap.blk l B hB with h | ⟨r, m, c, h1, h2, h3, us, h4, h5⟩
        · exact .inl h
        · exact .inr ⟨r, m, c, h1, h2, h3, us, VRs.keep (w := w) (w' := { w with drawn := w.drawn + 1 }) (fun _ h => h) (fun _ _ _ _ h => h) (fun _ _ h => h) _ _ h4, h5⟩, hR1.heap.inj, hR1.heap.apart, hR1.heap.lt, hR1.heap.flt, hR1.heap.glb⟩, hR1.size, hR1.defers,
      fun t v hv => ⟨(hR1.tmps t v hv).1, VR.keep (w := w) (w' := { w with drawn := w.drawn + 1 }) (fun _ h => h) (fun _ _ _ _ h => h) (fun _ _ h => h) _ _ (hR1.tmps t v hv).2⟩⟩
  have hFd : Fr ρ F w (rdels ρ Ls) F { w with drawn := w.drawn + 1 } :=
    ⟨rfl, rfl, rfl, Nat.le_refl _, fun _ _ _ => rfl, hF1.froz, hF1.froz', hF1.own, hF1.same, hF1.gone⟩
  refine draw_any (K := K .normal) (ρ0 := ρ) (F0 := F) (w0 := w) rfl hm hvl ht hnd ?_ hfact hT (fun st' ρ' F' a' w' h1 h2 h3 => hQ _ st' ρ' F' a' w' h1 h2 h3) ops.size (ρ := rdels ρ Ls) (F := F) (by simp) ?_ ?_ ?_ ?_ hFd
  · intro j o' v' d h1 h2 h3 h4
    exact drops_h (.inl (hLs _ (newLs_mem h1 h2 h3 h4)))
  · have : ∀ n, unl (List.replicate n false) = n := by
      intro n; induction n with
      | zero => rfl
      | succ n ih => simp [List.replicate_succ, unl, ih, Nat.add_comm]
    simp [this]
  · intro i o ho hi
    simp [ls, Array.getD_eq_getD_getElem?, Array.getElem?_replicate] at hi
    split at hi <;> simp at hi
  · intro i hi
    simp [ls, Array.getD_eq_getD_getElem?, Array.getElem?_replicate] at hi
    split at hi <;> simp at hi
  · have hf : ls (Array.replicate ops.size false) = fun _ => false := by
      funext i
      simp only [ls, Array.getD_eq_getD_getElem?, Array.getElem?_replicate]
      split <;> rfl
    rw [hf]
    refine ⟨hw1.subset rfl ?_ ?_, ?_⟩
    · intro p hp
      simp only [dSt, List.mem_append] at hp
      rcases hp with hp | hp
      · obtain ⟨i, o, v, _, _, h3, _⟩ := mem_partT.1 hp; cases h3
      · exact (mem_dropTs hp).1
    · intro p hp
      simp only [dSt, List.mem_append] at hp
      rcases hp with hp | hp
      · obtain ⟨i, o, v, d, _, _, h3, _⟩ := mem_partH.1 hp; cases h3
      · exact hp
    · intro i o v d h1 h2 _ h4 h5
      exact rdels_none (.inl (hLs _ (newLs_mem h1 h2 h4 h5)))
end Go.Proofs.YtjeafkodcmbabaaDoor.E
