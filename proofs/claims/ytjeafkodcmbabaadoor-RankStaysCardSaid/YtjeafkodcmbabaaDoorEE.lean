/- E, a reader of Go's code as the model has it: a contract of a function is proved over values that are told without memory (EE). -/
import Derived.Test.YtjeafkodcmbabaaDoorED

set_option linter.unusedVariables false
set_option linter.unusedSimpArgs false
open Go
namespace Go.Proofs.YtjeafkodcmbabaaDoor.E
set_option linter.unusedVariables false
set_option linter.unusedSimpArgs false
/-! ## Steps whose bounds omega finds; ways that meet again; lists of things in memory -/
theorem wrapU_o {n : Int} (h0 : 0 ≤ n) (h1 : n < 18446744073709551616) : IntKind.u64.wrap n = n := by rw [IntKind.wrap_u64]; exact Int.emod_eq_of_lt h0 h1
theorem wrapI_o {n : Int} (h0 : -9223372036854775808 ≤ n) (h1 : n < 9223372036854775808) : IntKind.i64.wrap n = n := by
  simp only [IntKind.wrap, IntKind.bits, IntKind.signed]
  have : (2:Int)^64 = 18446744073709551616 := by decide
  have h2 : (2:Int)^(64-1) = 9223372036854775808 := by decide
  simp only [this, h2]
  simp
  omega
theorem AOL.o1 {P : Program} {ops : Array Oper} {K : St → Prop} {st st' : St} {o : Oper} {os : List Oper}
    (hr : stepL P ops.toList o st = some st' := by
      (try simp only [runK, stepL, memOp, pureOp, gOkL, dstAt, dOk, St.eval, St.evalO, get?, St.put, ins, del, AV.ofV, aBinAll, aBin, aBinI, aBinA, csEq, cEq, rI, isC, aUn, aConv, aStr, nums_by8, aIface, aNil, aCallB, aLen, aMinMax, intOf?, bnd,
        Go.Proofs.YtjeafkodcmbabaaDoor.E.ld, Go.Proofs.YtjeafkodcmbabaaDoor.E.part, Go.Proofs.YtjeafkodcmbabaaDoor.E.takeAgg_tk, Go.Proofs.YtjeafkodcmbabaaDoor.E.tk, aFieldAddr, aIndexAddr, aField, aIndex, aBuildSlice, cBuild, aAlloc, aStore, aApp, srcCells, aFill, mapM?, St.parts, St.new, St.drop, mapT, mapH, kill, kills, AV.cells, AV.fits, AV.one, AV.free, frees, splice, cyc, lab, Value.oneCell', Value.cells,
        Option.bind_some, Option.map_some, Option.bind_none, Option.map_none, decide_true, decide_false, if_true, if_false, reduceIte, reduceCtorEq, Bool.false_eq_true, Nat.reduceLT, Nat.reduceEqDiff, Nat.reduceAdd, Nat.reduceMul, Nat.reduceLeDiff, Nat.reduceSub, Nat.zero_add, Nat.add_zero, Nat.zero_mul, Nat.one_mul, Nat.mul_one, Int.toNat_natCast, Int.toNat_zero,
        List.drop_succ_cons, List.drop_zero, List.take_succ_cons, List.take_zero, List.length_cons, List.length_nil, List.head?_cons, List.map_cons, List.map_nil, List.all_cons, List.all_nil, List.cons_append, List.nil_append, List.append_nil, List.set_cons_zero, List.set_cons_succ, List.getElem?_cons_zero, List.getElem?_cons_succ, Bool.not_true, Bool.not_false, beq_true, beq_false, Bool.true_beq, Bool.false_beq, Bool.and_self, Bool.and_true, Bool.true_and, and_self, and_true, true_and, false_implies, true_implies, implies_true, bne_self_eq_false, beq_self_eq_true, Option.isSome_some, List.all, *])
      (try simp (disch := omega) only [wrapU_o, wrapI_o, if_pos, if_neg])
      (try simp only [runK, stepL, memOp, pureOp, gOkL, dstAt, dOk, St.eval, St.evalO, get?, St.put, ins, del, AV.ofV, aBinAll, aBin, aBinI, aBinA, csEq, cEq, rI, isC, aUn, aConv, aStr, nums_by8, aIface, aNil, aCallB, aLen, aMinMax, intOf?, bnd,
        Go.Proofs.YtjeafkodcmbabaaDoor.E.ld, Go.Proofs.YtjeafkodcmbabaaDoor.E.part, Go.Proofs.YtjeafkodcmbabaaDoor.E.takeAgg_tk, Go.Proofs.YtjeafkodcmbabaaDoor.E.tk, aFieldAddr, aIndexAddr, aField, aIndex, aBuildSlice, cBuild, aAlloc, aStore, aApp, srcCells, aFill, mapM?, St.parts, St.new, St.drop, mapT, mapH, kill, kills, AV.cells, AV.fits, AV.one, AV.free, frees, splice, cyc, lab, Value.oneCell', Value.cells,
        Option.bind_some, Option.map_some, Option.bind_none, Option.map_none, decide_true, decide_false, if_true, if_false, reduceIte, reduceCtorEq, Bool.false_eq_true, Nat.reduceLT, Nat.reduceEqDiff, Nat.reduceAdd, Nat.reduceMul, Nat.reduceLeDiff, Nat.reduceSub, Nat.zero_add, Nat.add_zero, Nat.zero_mul, Nat.one_mul, Nat.mul_one, Int.toNat_natCast, Int.toNat_zero,
        List.drop_succ_cons, List.drop_zero, List.take_succ_cons, List.take_zero, List.length_cons, List.length_nil, List.head?_cons, List.map_cons, List.map_nil, List.all_cons, List.all_nil, List.cons_append, List.nil_append, List.append_nil, List.set_cons_zero, List.set_cons_succ, List.getElem?_cons_zero, List.getElem?_cons_succ, Bool.not_true, Bool.not_false, beq_true, beq_false, Bool.true_beq, Bool.false_beq, Bool.and_self, Bool.and_true, Bool.true_and, and_self, and_true, true_and, false_implies, true_implies, implies_true, bne_self_eq_false, beq_self_eq_true, Option.isSome_some, List.all, *])
      exact rfl)
    (h : AOL P ops os K st') : AOL P ops (o :: os) K st := AOL.run 1 (os' := os) (by simp only [runK, hr, Option.bind_some]) h

theorem AW.midK {P : Program} {c y : Code} {K K0 : Exit → St → Prop} {st : St} (ks : List Nat) (J : St → Prop) (h1 : AW P c (Kloop (fun s => J (s.keep ks)) K) st) (h2 : ∀ s, J s → AW P y K0 s) (hk : ∀ s, AW P y K0 s → K .normal s := by exact fun _ h => h) : AW P c K st :=
  AW.mono h1 fun e s => by
    cases e with
    | normal => exact fun h => hk _ (AW.sub (Sub.keep s ks) (h2 _ h))
    | _ => exact fun h => h
theorem AW.kq {P : Program} {c : Code} {K : Exit → St → Prop} {st : St} {n : Nat} {t0 t : List (Nat × AV)} {h0 : List (Nat × Blk)} (ks : List Nat) (he : st = ⟨n, t0, h0⟩ := by exact rfl) (ht : keepT ks t0 = t := by simp only [keepT, List.contains_cons, List.contains_nil, BEq.rfl, Bool.or_true, Bool.true_or, Bool.or_false, Bool.false_or, Nat.reduceBEq, if_true, if_false, reduceIte, Bool.false_eq_true]; exact rfl)
    (h : AW P c K ⟨n, t, h0⟩) : AW P c K st := by
  subst he; subst ht; exact AW.sub (Sub.keep _ ks) h
theorem AOL.kq {P : Program} {ops : Array Oper} {os : List Oper} {K : St → Prop} {st : St} {n : Nat} {t0 t : List (Nat × AV)} {h0 : List (Nat × Blk)} (ks : List Nat) (he : st = ⟨n, t0, h0⟩ := by exact rfl) (ht : keepT ks t0 = t := by simp only [keepT, List.contains_cons, List.contains_nil, BEq.rfl, Bool.or_true, Bool.true_or, Bool.or_false, Bool.false_or, Nat.reduceBEq, if_true, if_false, reduceIte, Bool.false_eq_true]; exact rfl)
    (h : AOL P ops os K ⟨n, t, h0⟩) : AOL P ops os K st := by
  subst he; subst ht; exact AOL.subst_ (Sub.keep _ ks) h
/-- both ways of a guard, told as one -/
theorem AOL.and {P : Program} {ops : Array Oper} {os os' : List Oper} {K : St → Prop} {st : St} {b x : Bool} {f : Bool → St} (g t : Nat) (hg : get? g st.t = some (.val (.bool b)) := by exact rfl)
    (hs : ∀ v, ({ st with t := ins t (.val (.bool v)) (del g st.t) } : St) = f v := by intro v_; simp only [ins, del, reduceIte, Nat.reduceLT, Nat.reduceEqDiff]; exact rfl)
    (h1 : b = true → ∀ K', AOL P ops os' K' (f x) → AOL P ops os K' st) (h0 : b = false → ∀ K', AOL P ops os' K' (f false) → AOL P ops os K' st) (h : AOL P ops os' K (f (b && x))) : AOL P ops os K st := by
  cases b
  · exact h0 rfl K h
  · exact h1 rfl K h
theorem AOL.or {P : Program} {ops : Array Oper} {os os' : List Oper} {K : St → Prop} {st : St} {b x : Bool} {f : Bool → St} (g t : Nat) (hg : get? g st.t = some (.val (.bool b)) := by exact rfl)
    (hs : ∀ v, ({ st with t := ins t (.val (.bool v)) (del g st.t) } : St) = f v := by intro v_; simp only [ins, del, reduceIte, Nat.reduceLT, Nat.reduceEqDiff]; exact rfl)
    (h1 : b = true → ∀ K', AOL P ops os' K' (f true) → AOL P ops os K' st) (h0 : b = false → ∀ K', AOL P ops os' K' (f x) → AOL P ops os K' st) (h : AOL P ops os' K (f (b || x))) : AOL P ops os K st := by
  cases b
  · exact h0 rfl K h
  · exact h1 rfl K h

/-- an operation that reads slots which later ones write -/
def lateB (pre : List Oper) (i : Nat) (ks : List Nat) : Bool := pre.all fun o => match o.dst with | some d => !(ks.contains d) || (predsL o.after.toList).contains i | none => true
theorem ADL.l1 {P : Program} {id : Nat} {ops : Array Oper} {m : Nat} {Ls : List Nat} {K : Exit → St → Prop} {st : St} {pre : List Oper} {st1 : St} {base : List (Nat × AV)} {o : Oper} {os : List Oper} {vs : List (AV × Option Blk)} {v : AV × Option Blk} (ks : List Nat)
    (hlate : lateB pre vs.length ks = true)
    (hr : dStepL P st.n ops.toList Ls ⟨st1.n, pickT (predsL o.after.toList) 0 pre vs (keepT ks st1.t ++ base), st1.h⟩ o = some v := by
      simp only [keepT, List.contains_cons, List.contains_nil, BEq.rfl, Bool.or_true, Bool.true_or, Bool.or_false, Bool.false_or, Nat.reduceBEq, dRunK, dStepL, dVw, pickT, predsL, inL, dEval, lOk, runK, stepL, memOp, pureOp, gOkL, dstAt, dOk, St.eval, St.evalO, get?, St.put, ins, del, AV.ofV, aBinAll, aBin, aBinI, aBinA, csEq, cEq, rI, isC, aUn, aConv, aStr, nums_by8, aIface, aNil, aCallB, aLen, aMinMax, intOf?, bnd,
        Go.Proofs.YtjeafkodcmbabaaDoor.E.ld, Go.Proofs.YtjeafkodcmbabaaDoor.E.part, Go.Proofs.YtjeafkodcmbabaaDoor.E.takeAgg_tk, Go.Proofs.YtjeafkodcmbabaaDoor.E.tk, aFieldAddr, aIndexAddr, aField, aIndex, aBuildSlice, cBuild, aAlloc, aStore, aApp, srcCells, aFill, mapM?, St.parts, St.new, St.drop, mapT, mapH, kill, kills, AV.cells, AV.fits, AV.one, AV.free, frees, splice, cyc, lab, Value.oneCell', Value.cells,
        Option.bind_some, Option.map_some, Option.bind_none, Option.map_none, decide_true, decide_false, if_true, if_false, reduceIte, reduceCtorEq, Bool.false_eq_true, Nat.reduceLT, Nat.reduceEqDiff, Nat.reduceAdd, Nat.reduceMul, Nat.reduceLeDiff, Nat.reduceSub, Nat.zero_add, Nat.add_zero, Nat.zero_mul, Nat.one_mul, Nat.mul_one, Int.toNat_natCast, Int.toNat_zero,
        List.drop_succ_cons, List.drop_zero, List.take_succ_cons, List.take_zero, List.length_cons, List.length_nil, List.head?_cons, List.map_cons, List.map_nil, List.all_cons, List.all_nil, List.cons_append, List.nil_append, List.append_nil, List.set_cons_zero, List.set_cons_succ, List.getElem?_cons_zero, List.getElem?_cons_succ, Bool.not_true, Bool.not_false, beq_true, beq_false, Bool.true_beq, Bool.false_beq, Bool.and_self, Bool.and_true, Bool.true_and, and_self, and_true, true_and, false_implies, true_implies, implies_true, bne_self_eq_false, beq_self_eq_true, Option.isSome_some, List.all, *]
      exact rfl)
    (h : ADL P id ops m Ls K st pre st1 base os (vs ++ [v])) : ADL P id ops m Ls K st pre st1 base (o :: os) vs := by
  intro hok hpre hst hbase hos
  have h' := h hok hpre hst hbase (by rw [List.length_append]; simp only [List.length_cons, List.length_nil, Nat.zero_add]; rw [← List.drop_drop, hos]; rfl)
  simp only [drawOk, Bool.and_eq_true, decide_eq_true_eq] at hok
  obtain ⟨he, _⟩ := hok
  have ho : pre[vs.length]? = some o := by
    have := congrArg (·[0]?) hos
    simpa using this
  subst hpre
  have hL : LateOk (st.drops Ls) (ops.toList.take m) vs.length (keepT ks (st.drops Ls).t) := by
    intro p hp
    refine ⟨mem_keepT hp, fun j o' hj hd => ?_⟩
    have hk : ks.contains p.1 = true := by
      have key : ∀ (l : List (Nat × AV)), p ∈ keepT ks l → ks.contains p.1 = true := by
        intro l
        induction l with
        | nil => intro h; cases h
        | cons q l ih =>
          obtain ⟨k, x⟩ := q
          intro h
          simp only [keepT] at h
          split at h
          · rcases List.mem_cons.1 h with rfl | h
            · assumption
            · exact ih h
          · exact ih h
      exact key _ hp
    have := List.all_eq_true.1 hlate o' (List.mem_of_getElem? hj)
    rw [hd] at this
    simp only [hk, Bool.not_true, Bool.false_or] at this
    rw [predsL_eq] at this
    simpa [dpreds] using this
  have hvw : (⟨st1.n, pickT (predsL o.after.toList) 0 (ops.toList.take m) vs (keepT ks st1.t ++ base), st1.h⟩ : St) = dViewL (st.drops Ls) (ops.toList.take m) vs (keepT ks (st.drops Ls).t) o := by
    subst hst hbase
    simp only [dViewL, pickT_eq, predsL_eq, dpreds]
  rw [hvw] at hr
  unfold dStepL at hr
  rw [gOkL_eq] at hr
  split at hr
  · rename_i hd hg
    cases hr
    exact AD.snoc he ho (by cases o.dst <;> simp [lOk]) ⟨by rw [drops_n]; exact hd, _, hL, .inl ⟨hg, rfl⟩⟩ h'
  · rename_i hd hg
    simp only [Option.bind_eq_some_iff] at hr
    obtain ⟨v', hv, hr⟩ := hr
    split at hr
    · rename_i hl
      cases hr
      exact AD.snoc he ho hl ⟨by rw [drops_n]; exact hd, _, hL, .inr ⟨hg, .inl hv⟩⟩ h'
    · cases hr
  · cases hr

/-! ### what can be compared, told so that the kernel reckons it -/
def eqFg (P : Program) (g : TypeId → Option (List Ck)) : List Field → Nat → Option (List Ck)
  | [], _ => some []
  | f :: fs, off => if f.name ≠ "_" ∧ f.offset = off then (g f.type).bind fun k => if tSz P f.type = some k.length ∧ 0 < k.length then (eqFg P g fs (off + k.length)).map (k ++ ·) else none else none
def eqS (P : Program) : Nat → TypeId → Option (List Ck)
  | 0, _ => none
  | d + 1, t => match P.underlying t with
    | some .bool => some [.bool]
    | some (.int _) => some [.int]
    | some .string => some [.string]
    | some (.struct fs) => if P.stoodInHeld t then none else eqFg P (eqS P d) fs.toList 0
    | some (.array n e) => (eqS P d e).bind fun k => if tSz P e = some k.length ∧ 0 < k.length then some (List.replicate n k).flatten else none
    | _ => none
theorem eqFg_eq {P : Program} {g : TypeId → Option (List Ck)} {d : Nat} (hg : ∀ t, g t = eqN P d t) : ∀ (fs : List Field) (off : Nat), eqFg P g fs off = eqF P d fs off
  | [], off => by simp only [eqFg, eqF]
  | f :: fs, off => by
    simp only [eqFg, eqF, hg]
    split
    · congr 1; funext k
      split
      · rw [eqFg_eq hg fs]
      · rfl
    · rfl
theorem eqS_eq {P : Program} : ∀ (d : Nat) (t : TypeId), eqS P d t = eqN P d t
  | 0, t => by simp only [eqS, eqN]
  | d + 1, t => by
    simp only [eqS, eqN]
    cases P.underlying t with
    | none => rfl
    | some x => cases x <;> first | rfl | (simp only [eqFg_eq (eqS_eq d)]; done) | (simp only [eqS_eq d]; done)
theorem eqT_of {P : Program} {t : TypeId} {ks : List Ck} (h1 : tAgg P t = some true) (h2 : P.eqGuardType P.depth t = false) (h3 : eqS P 100 t = some ks) : eqT P t = some ks := by
  unfold eqT
  rw [h1]
  simp only [h2, Bool.false_eq_true, if_false]
  rw [← eqS_eq]; exact h3

/-! ### a drawn region in every order, one after the other -/
def AAny (P : Program) (ops : Array Oper) (fuel : Nat) (listed : Array Bool) (K : St → Prop) (st : St) : Prop :=
  ∀ ρ F a w (Q : Exit → Act → World → Prop), Rel ρ F st a w → (∀ st' ρ' F' a' w', K st' → Rel ρ' F' st' a' w' → Fr ρ F w ρ' F' w' → Q .normal a' w') → wpAny P .any ops Q fuel listed a w
theorem AAny.done {P : Program} {ops : Array Oper} {listed : Array Bool} {K : St → Prop} {st : St} (hr : Region.ready .any ops listed = []) (h : K st) : AAny P ops 0 listed K st :=
  fun ρ F a w Q hR hQ => ⟨hr, hQ _ _ _ _ _ h hR (Fr.refl _ _ _)⟩
def AAll (P : Program) (ops : Array Oper) (fuel : Nat) (listed : Array Bool) : List Nat → (St → Prop) → St → Prop
  | [], _, _ => True
  | i :: r, K, st => (∃ st', stepOp P ops i st = some st' ∧ AAny P ops fuel (listed.setIfInBounds i true) K st') ∧ AAll P ops fuel listed r K st
theorem AAll.mem {P : Program} {ops : Array Oper} {fuel : Nat} {listed : Array Bool} {K : St → Prop} {st : St} : ∀ {rs : List Nat} {i : Nat}, AAll P ops fuel listed rs K st → i ∈ rs → ∃ st', stepOp P ops i st = some st' ∧ AAny P ops fuel (listed.setIfInBounds i true) K st'
  | [], i, _, h => by cases h
  | j :: r, i, h, hi => by
    simp only [AAll] at h
    rcases List.mem_cons.1 hi with rfl | hi
    · exact h.1
    · exact AAll.mem h.2 hi
theorem stepOp_any {P : Program} {ops : Array Oper} {i : Nat} {st st' : St} (h : stepOp P ops i st = some st') {ρ F a w} (hR : Rel ρ F st a w) :
    ∃ a' w' ρ', Rel ρ' F st' a' w' ∧ Fr ρ F w ρ' F w' ∧ ∀ (Q : Exit → Act → World → Prop) (N : Act → World → Prop), N a' w' → wpOp P ops Q i N a w := by
  unfold stepOp at h
  split at h
  · cases h
  · rename_i o ho
    split at h
    · rename_i hd
      have hd := dOk_lt hd
      split at h
      · cases h
      · rename_i hg
        have hw := gOk_rel hR hg
        simp only [Option.map_eq_some_iff] at h
        obtain ⟨⟨v, s1⟩, hm, rfl⟩ := h
        obtain ⟨nx, u, w', ρ', hr, hnx, hR', hv, hF⟩ := memOp_run hR hm
        have hn := memOp_n hm hR hR'
        refine ⟨a.put o.dst u, w', ρ', hR'.put (by rw [hn]; exact hd) hv, hF, ?_⟩
        intro Q N hq
        simp only [wpOp, ho, hw, if_true]
        refine .inl ?_
        simp only [Oper.wp, hr]
        rcases hnx with rfl | ⟨rfl, rfl⟩ <;> exact hq
      · rename_i hg
        have hw := gOk_rel hR hg
        cases h
        refine ⟨a.put o.dst undef, w, ρ, hR.put hd (by simp only [VR]; rfl), Fr.refl _ _ _, ?_⟩
        intro Q N hq
        simp only [wpOp, ho, hw, Bool.false_eq_true, if_false]
        exact hq
    · cases h
theorem AAny.step {P : Program} {ops : Array Oper} {fuel : Nat} {listed : Array Bool} {K : St → Prop} {st : St} (rs : List Nat) (hrs : Region.ready .any ops listed = rs) (hne : rs.isEmpty = false) (h : AAll P ops fuel listed rs K st) : AAny P ops (fuel + 1) listed K st := by
  subst hrs
  intro ρ F a w Q hR hQ
  refine ⟨fun h0 => (by rw [h0] at hne; cases hne), ?_⟩
  intro i hi
  obtain ⟨st', hs, hk⟩ := h.mem hi
  obtain ⟨a', w', ρ', hR', hF, hw⟩ := stepOp_any hs hR
  exact hw Q _ (hk ρ' F a' w' Q hR' fun st'' ρ'' F'' a'' w'' h1 h2 h3 => hQ st'' ρ'' F'' a'' w'' h1 h2 (hF.trans h3))
theorem AAll.nil {P : Program} {ops : Array Oper} {fuel : Nat} {listed : Array Bool} {K : St → Prop} {st : St} : AAll P ops fuel listed [] K st := trivial
def nthO : List Oper → Nat → Option Oper
  | [], _ => none
  | o :: _, 0 => some o
  | _ :: r, i + 1 => nthO r i
theorem nthO_eq : ∀ (l : List Oper) (i : Nat), nthO l i = l[i]?
  | [], _ => rfl
  | o :: _, 0 => rfl
  | _ :: r, i + 1 => by simp only [nthO, nthO_eq r i, List.getElem?_cons_succ]
theorem AAll.cons {P : Program} {ops : Array Oper} {fuel : Nat} {listed : Array Bool} {K : St → Prop} {st st' : St} {i : Nat} {r : List Nat} {o : Oper} (ho : nthO ops.toList i = some o)
    (hr : stepL P ops.toList o st = some st' := by
      simp only [runK, stepL, memOp, pureOp, gOkL, dstAt, dOk, St.eval, St.evalO, get?, St.put, ins, del, AV.ofV, aBinAll, aBin, aBinI, aBinA, csEq, cEq, rI, isC, aUn, aConv, aStr, nums_by8, aIface, aNil, aCallB, aLen, aMinMax, intOf?, bnd,
        Go.Proofs.YtjeafkodcmbabaaDoor.E.ld, Go.Proofs.YtjeafkodcmbabaaDoor.E.part, Go.Proofs.YtjeafkodcmbabaaDoor.E.takeAgg_tk, Go.Proofs.YtjeafkodcmbabaaDoor.E.tk, aFieldAddr, aIndexAddr, aField, aIndex, aBuildSlice, cBuild, aAlloc, aStore, aApp, srcCells, aFill, mapM?, St.parts, St.new, St.drop, mapT, mapH, kill, kills, AV.cells, AV.fits, AV.one, AV.free, frees, splice, cyc, lab, Value.oneCell', Value.cells,
        Option.bind_some, Option.map_some, Option.bind_none, Option.map_none, decide_true, decide_false, if_true, if_false, reduceIte, reduceCtorEq, Bool.false_eq_true, Nat.reduceLT, Nat.reduceEqDiff, Nat.reduceAdd, Nat.reduceMul, Nat.reduceLeDiff, Nat.reduceSub, Nat.zero_add, Nat.add_zero, Nat.zero_mul, Nat.one_mul, Nat.mul_one, Int.toNat_natCast, Int.toNat_zero,
        List.drop_succ_cons, List.drop_zero, List.take_succ_cons, List.take_zero, List.length_cons, List.length_nil, List.head?_cons, List.map_cons, List.map_nil, List.all_cons, List.all_nil, List.cons_append, List.nil_append, List.append_nil, List.set_cons_zero, List.set_cons_succ, List.getElem?_cons_zero, List.getElem?_cons_succ, Bool.not_true, Bool.not_false, beq_true, beq_false, Bool.true_beq, Bool.false_beq, Bool.and_self, Bool.and_true, Bool.true_and, and_self, and_true, true_and, false_implies, true_implies, implies_true, bne_self_eq_false, beq_self_eq_true, Option.isSome_some, List.all, *]
      exact rfl)
    (h1 : AAny P ops fuel (listed.setIfInBounds i true) K st') (h2 : AAll P ops fuel listed r K st) : AAll P ops fuel listed (i :: r) K st :=
  ⟨⟨st', by rw [stepL_eq (by rw [← Array.getElem?_toList, ← nthO_eq]; exact ho)]; exact hr, h1⟩, h2⟩
theorem AW.anyO {P : Program} {id : Nat} {ops : Array Oper} {K : Exit → St → Prop} {st st1 : St} (hmix : P.follows .mixedOrders = true) (h : AAny P ops ops.size (Array.replicate ops.size false) (fun s => s = st1) st) (hk : K .normal st1) : AW P (.region id ops true) K st := by
  intro ρ F a w Q hR hQ
  refine wp_region_any hmix ?_
  have hw1 : Rel ρ F st a { w with drawn := w.drawn + 1 } :=
    ⟨⟨fun l B hB => by
        rcases hR.heap.blk l B hB with h | ⟨r, m, c, h1, h2, h3, us, h4, h5⟩
        · exact .inl h
        · exact .inr ⟨r, m, c, h1, h2, h3, us, VRs.keep (w := w) (w' := { w with drawn := w.drawn + 1 }) (fun _ h => h) (fun _ _ _ _ h => h) (fun _ _ h => h) _ _ h4, h5⟩, hR.heap.inj, hR.heap.apart, hR.heap.lt, hR.heap.flt, hR.heap.glb⟩, hR.size, hR.defers,
      fun t v hv => ⟨(hR.tmps t v hv).1, VR.keep (w := w) (w' := { w with drawn := w.drawn + 1 }) (fun _ h => h) (fun _ _ _ _ h => h) (fun _ _ h => h) _ _ (hR.tmps t v hv).2⟩⟩
  have hFd : Fr ρ F w ρ F { w with drawn := w.drawn + 1 } :=
    ⟨rfl, rfl, rfl, Nat.le_refl _, fun _ _ _ => rfl, fun _ h => h, fun _ h => .inl h, fun l r m h => .inl ⟨l, m, h⟩, fun _ _ x y h k => by rw [h] at k; exact Option.some.inj k, fun _ _ h => h⟩
  refine h ρ F a _ Q hw1 fun st' ρ' F' a' w' h1 h2 h3 => ?_
  subst h1
  exact hQ _ _ _ _ _ _ hk h2 (hFd.trans h3)

def fm {α : Type} (f : α → List AV) : List α → List AV
  | [] => []
  | a :: l => f a ++ fm f l
theorem fm_drop {α : Type} {f : α → List AV} {z : Nat} (hz : ∀ a, (f a).length = z) : ∀ {L : List α} {k : Nat} {a : α} {r : List α}, L.drop k = a :: r → (fm f L).drop (k * z) = f a ++ fm f r
  | [], k, h, r, e => by simp at e
  | g :: l, 0, h, r, e => by simp at e; obtain ⟨rfl, rfl⟩ := e; simp [fm]
  | g :: l, k + 1, h, r, e => by
    simp only [fm]
    rw [Nat.add_mul, Nat.one_mul, Nat.add_comm, ← List.drop_drop]
    have : (f g ++ fm f l).drop z = fm f l := by rw [← hz g]; simp
    rw [this]
    exact fm_drop hz (by simpa using e)
theorem fm_at {α : Type} {f : α → List AV} {z : Nat} (hz : ∀ a, (f a).length = z) {L : List α} {k : Nat} (hk : k < L.length) : (fm f L).drop (k * z) = f L[k] ++ fm f (L.drop (k + 1)) :=
  fm_drop hz (List.drop_eq_getElem_cons hk)
theorem fm_len {α : Type} {f : α → List AV} {z : Nat} (hz : ∀ a, (f a).length = z) : ∀ (L : List α), (fm f L).length = L.length * z
  | [] => by simp [fm]
  | a :: l => by simp only [fm, List.length_append, hz, fm_len hz l, List.length_cons, Nat.add_mul]; omega
theorem fm_app {α : Type} {f : α → List AV} : ∀ (F G : List α), fm f (F ++ G) = fm f F ++ fm f G
  | [], G => rfl
  | a :: F, G => by simp [fm, fm_app F G]
theorem fm_snoc {α : Type} {f : α → List AV} (F : List α) (a : α) : fm f F ++ f a = fm f (F ++ [a]) := by rw [fm_app]; simp [fm]
abbrev slF {α : Type} (f : α → List AV) (L : List α) : AV := .sl L.length (fm f L)
end Go.Proofs.YtjeafkodcmbabaaDoor.E

namespace Go.Proofs.YtjeafkodcmbabaaDoor.E
set_option linter.unusedVariables false
set_option linter.unusedSimpArgs false
/-! ## A block of which less is told; results told by labels of the contract's own choice; results frozen -/
def takeB (l k : Nat) : List (Nat × Blk) → List (Nat × Blk)
  | [] => []
  | (j, B) :: r => if j = l then (j, { B with cs := B.cs.take k }) :: takeB l k r else (j, B) :: takeB l k r
theorem mem_takeB {l k : Nat} {p : Nat × Blk} : ∀ {h : List (Nat × Blk)}, p ∈ takeB l k h → ∃ q ∈ h, p.1 = q.1 ∧ (p = q ∨ (p.1 = l ∧ p.2 = { q.2 with cs := q.2.cs.take k }))
  | [], hp => by simp [takeB] at hp
  | (j, B) :: r, hp => by
    simp only [takeB] at hp
    split at hp
    · rename_i e
      rcases List.mem_cons.1 hp with rfl | hp
      · exact ⟨(j, B), by simp, rfl, .inr ⟨e, rfl⟩⟩
      · obtain ⟨q, hq, h⟩ := mem_takeB hp; exact ⟨q, List.mem_cons_of_mem _ hq, h⟩
    · rcases List.mem_cons.1 hp with rfl | hp
      · exact ⟨(j, B), by simp, rfl, .inl rfl⟩
      · obtain ⟨q, hq, h⟩ := mem_takeB hp; exact ⟨q, List.mem_cons_of_mem _ hq, h⟩
def St.trunc (st : St) (l k : Nat) : St := { st with h := takeB l k st.h }
theorem Sub.trunc (st : St) (l k : Nat) : Sub st (st.trunc l k) := fun ρ F a w hR => by
  refine ⟨ρ, F, ⟨⟨?_, hR.heap.inj, hR.heap.apart, hR.heap.lt, hR.heap.flt, hR.heap.glb⟩, hR.size, hR.defers, hR.tmps⟩, Fr.refl _ _ _⟩
  intro j B hB
  obtain ⟨⟨j', C⟩, hq, e, hc⟩ := mem_takeB hB
  simp only at e
  subst e
  rcases hc with hc | ⟨_, hc⟩
  · obtain rfl : B = C := congrArg Prod.snd hc
    exact hR.heap.blk _ _ hq
  · simp only at hc
    subst hc
    rcases hR.heap.blk _ _ hq with ⟨h0, h1⟩ | ⟨r, m, c, h1, h2, h3, vs, h4, h5, h6⟩
    · exact .inl ⟨by simp [h0], h1⟩
    · refine .inr ⟨r, m, c, h1, h2, h3, vs.take k, h4.take k, by rw [List.length_take]; omega, ?_⟩
      intro i v hi
      refine h6 i v ?_
      rw [List.getElem?_take] at hi
      split at hi
      · exact hi
      · cases hi
theorem AW.tr {P c K st st'} (l k : Nat) (hs : st.trunc l k = st' := by simp only [St.trunc, takeB, reduceIte, Nat.reduceEqDiff]; exact rfl) (h : AW P c K st') : AW P c K st := by
  subst hs; exact AW.sub (Sub.trunc st l k) h
theorem AOL.tr {P ops os K st st'} (l k : Nat) (hs : st.trunc l k = st' := by simp only [St.trunc, takeB, reduceIte, Nat.reduceEqDiff]; exact rfl) (h : AOL P ops os K st') : AOL P ops os K st := by
  subst hs; exact AOL.subst_ (Sub.trunc st l k) h

/-! ### renaming -/
mutual
theorem ren_comp (s t : Nat → Nat) : ∀ c : AV, ren t (ren s c) = ren (fun l => t (s l)) c
  | .ptr _ _ => rfl
  | .ref _ _ _ _ => rfl
  | .agg cs => by simp only [ren, rens_comp s t cs]
  | .tup cs => by simp only [ren, rens_comp s t cs]
  | .clo f cs => by simp only [ren, rens_comp s t cs]
  | .ifc ty c => by simp only [ren, ren_comp s t c]
  | .val _ => rfl
  | .sl _ _ => rfl
  | .fptr _ => rfl
  | .emp => rfl
  | .dead => rfl
theorem rens_comp (s t : Nat → Nat) : ∀ cs : List AV, rens t (rens s cs) = rens (fun l => t (s l)) cs
  | [] => rfl
  | c :: cs => by simp only [rens, ren_comp s t c, rens_comp s t cs]
end
mutual
theorem ren_congr {s t : Nat → Nat} : ∀ c : AV, (∀ l ∈ labs c, s l = t l) → ren s c = ren t c
  | .ptr k _, h => by simp only [ren]; rw [h k (by simp [labs])]
  | .ref k _ _ _, h => by simp only [ren]; rw [h k (by simp [labs])]
  | .agg cs, h => by simp only [ren]; rw [rens_congr cs (by simpa only [labs] using h)]
  | .tup cs, h => by simp only [ren]; rw [rens_congr cs (by simpa only [labs] using h)]
  | .clo f cs, h => by simp only [ren]; rw [rens_congr cs (by simpa only [labs] using h)]
  | .ifc ty c, h => by simp only [ren]; rw [ren_congr c (by simpa only [labs] using h)]
  | .val _, _ => rfl
  | .sl _ _, _ => rfl
  | .fptr _, _ => rfl
  | .emp, _ => rfl
  | .dead, _ => rfl
theorem rens_congr {s t : Nat → Nat} : ∀ cs : List AV, (∀ l ∈ labss cs, s l = t l) → rens s cs = rens t cs
  | [], _ => rfl
  | c :: cs, h => by
    simp only [rens]
    rw [ren_congr c fun l hl => h l (by simp [labss, hl]), rens_congr cs fun l hl => h l (by simp [labss, hl])]
end
mutual
theorem ren_self : ∀ c : AV, ren (fun l => l) c = c
  | .ptr _ _ => rfl
  | .ref _ _ _ _ => rfl
  | .agg cs => by simp only [ren, rens_self cs]
  | .tup cs => by simp only [ren, rens_self cs]
  | .clo f cs => by simp only [ren, rens_self cs]
  | .ifc ty c => by simp only [ren, ren_self c]
  | .val _ => rfl
  | .sl _ _ => rfl
  | .fptr _ => rfl
  | .emp => rfl
  | .dead => rfl
theorem rens_self : ∀ cs : List AV, rens (fun l => l) cs = cs
  | [] => rfl
  | c :: cs => by simp only [rens, ren_self c, rens_self cs]
end
mutual
theorem labs_free : ∀ c : AV, c.free = true → labs c = []
  | .ptr _ _, h => by cases h
  | .ref _ _ _ _, h => by cases h
  | .agg cs, h => by simp only [labs]; exact labss_free cs (by simpa only [AV.free] using h)
  | .tup cs, h => by simp only [labs]; exact labss_free cs (by simpa only [AV.free] using h)
  | .clo f cs, h => by simp only [labs]; exact labss_free cs (by simpa only [AV.free] using h)
  | .ifc ty c, h => by simp only [labs]; exact labs_free c (by simpa only [AV.free] using h)
  | .val _, _ => rfl
  | .sl _ _, _ => rfl
  | .fptr _, _ => rfl
  | .emp, _ => rfl
  | .dead, _ => rfl
theorem labss_free : ∀ cs : List AV, frees cs = true → labss cs = []
  | [], _ => rfl
  | c :: cs, h => by
    simp only [frees, Bool.and_eq_true] at h
    simp only [labss, labs_free c h.1, labss_free cs h.2, List.append_nil]
end
theorem rens_free (s : Nat → Nat) {cs : List AV} (h : frees cs = true) : rens s cs = cs := by
  rw [rens_congr cs (t := fun l => l) (by rw [labss_free cs h]; simp), rens_self]
theorem frees_app : ∀ a b : List AV, frees (a ++ b) = (frees a && frees b)
  | [], b => by simp [frees]
  | c :: a, b => by simp only [List.cons_append, frees, frees_app a b, Bool.and_assoc]
theorem frees_fm {α : Type} {f : α → List AV} (hf : ∀ a, frees (f a) = true) : ∀ L : List α, frees (fm f L) = true
  | [] => rfl
  | a :: l => by simp only [fm, frees_app, hf, frees_fm hf l, Bool.and_true]
theorem rens_fm {α : Type} {f : α → List AV} (hf : ∀ a, frees (f a) = true) (s : Nat → Nat) (L : List α) : rens s (fm f L) = fm f L := rens_free s (frees_fm hf L)

/-! ### a result by labels of the contract's own choice -/
def mapS (s : Nat → Nat) (h : List (Nat × Blk)) : List (Nat × Blk) := h.map fun p => (s p.1, renB s p.2)
def hlabs (h : List (Nat × Blk)) : List Nat := h.map (·.1)
def Tells (r0 : AV) (h0 : List (Nat × Blk)) : AV → List (Nat × Blk) → Prop := fun r h =>
  ∃ s : Nat → Nat, (∀ l, l < 1000 → s l = l) ∧ (∀ l ∈ hlabs h0, 1000 ≤ l → 1000 ≤ s l) ∧ (∀ l ∈ hlabs h0, ∀ k ∈ hlabs h0, s l = s k → l = k) ∧ r = ren s r0 ∧ h = mapS s h0
theorem Tells.self {r0 h0} : Tells r0 h0 r0 h0 := by
  refine ⟨fun l => l, fun _ _ => rfl, fun _ _ h => h, fun _ _ _ _ h => h, (ren_self r0).symm, ?_⟩
  unfold mapS
  have : ∀ B : Blk, renB (fun l => l) B = B := by intro B; simp [renB, rens_self]
  simp [this]
theorem pos_mapS {s : Nat → Nat} {l : Nat} : ∀ {h : List (Nat × Blk)}, (∀ k ∈ hlabs h, s l = s k → l = k) → pos (s l) (mapS s h) = pos l h
  | [], _ => rfl
  | (k, B) :: r, h => by
    simp only [mapS, List.map_cons, pos]
    have ih := pos_mapS (s := s) (l := l) (h := r) (fun k hk => h k (by simp [hlabs] at hk ⊢; exact .inr hk))
    by_cases e : k = l
    · rw [if_pos e, if_pos (by rw [e])]
    · rw [if_neg e, if_neg (fun e' => e (h k (by simp [hlabs]) e'.symm).symm)]
      simp only [mapS] at ih
      rw [ih]
theorem get?_mapS {s : Nat → Nat} {l : Nat} (h1 : ∀ l, l < 1000 → s l = l) (hl : l < 1000) : ∀ {h : List (Nat × Blk)}, (∀ k ∈ hlabs h, 1000 ≤ k → 1000 ≤ s k) → get? l (mapS s h) = (get? l h).map (renB s)
  | [], _ => rfl
  | (k, B) :: r, h => by
    simp only [mapS, List.map_cons, get?]
    have ih := get?_mapS h1 hl (h := r) (fun k hk => h k (by simp [hlabs] at hk ⊢; exact .inr hk))
    by_cases e : k = l
    · subst e; rw [h1 k hl]; simp
    · have : s k ≠ l := by
        intro e'
        rcases Nat.lt_or_ge k 1000 with hk | hk
        · exact e (by rw [h1 k hk] at e'; exact e')
        · have := h k (by simp [hlabs]) hk; omega
      rw [if_neg e, if_neg this]
      exact ih
theorem consumed_mapS {s : Nat → Nat} (h1 : ∀ l, l < 1000 → s l = l) {h : List (Nat × Blk)} (h2 : ∀ k ∈ hlabs h, 1000 ≤ k → 1000 ≤ s k) : ∀ (em : List Nat) (i : Nat), i + em.length ≤ 1000 → consumed (mapS s h) i em = consumed h i em
  | [], i, _ => rfl
  | L :: r, i, hi => by
    simp only [List.length_cons] at hi
    simp only [consumed, get?_mapS h1 (show i < 1000 by omega) h2, consumed_mapS h1 h2 r (i + 1) (by omega)]
    cases get? i h <;> rfl
theorem sig_mapS {s : Nat → Nat} {em : List Nat} {base : Nat} {h : List (Nat × Blk)} (h1 : ∀ l, l < 1000 → s l = l) (h2 : ∀ k ∈ hlabs h, 1000 ≤ k → 1000 ≤ s k) (h3 : ∀ l ∈ hlabs h, ∀ k ∈ hlabs h, s l = s k → l = k) {l : Nat} (hl : l < 1000 ∨ l ∈ hlabs h) : sig em base (mapS s h) (s l) = sig em base h l := by
  unfold sig
  by_cases c : l < 1000
  · rw [h1 l c, if_pos c, if_pos c]
  · have hm := hl.resolve_left c
    rw [if_neg (by have := h2 l hm (by omega); omega), if_neg c, pos_mapS (fun k hk => h3 l hm k hk)]
theorem newNames_mapS {s : Nat → Nat} {em : List Nat} {base : Nat} {h : List (Nat × Blk)} (h1 : ∀ l, l < 1000 → s l = l) (h2 : ∀ k ∈ hlabs h, 1000 ≤ k → 1000 ≤ s k) (h3 : ∀ l ∈ hlabs h, ∀ k ∈ hlabs h, s l = s k → l = k) : ∀ r : List (Nat × Blk), (∀ p ∈ r, p ∈ h) → newNames em base (mapS s h) (mapS s r) = newNames em base h r
  | [], _ => rfl
  | (l, B) :: r, hr => by
    have hm : l ∈ hlabs h := List.mem_map.2 ⟨_, hr (l, B) (by simp), rfl⟩
    have ih := newNames_mapS (em := em) (base := base) h1 h2 h3 r fun p hp => hr p (List.mem_cons_of_mem _ hp)
    have e : mapS s ((l, B) :: r) = (s l, renB s B) :: mapS s r := rfl
    rw [e]
    simp only [newNames]
    rw [ih, sig_mapS h1 h2 h3 (.inr hm)]
    by_cases c : l < 1000
    · rw [h1 l c]
    · rw [if_neg c, if_neg (by have := h2 l hm (by omega); omega)]
theorem putH_mapS {s : Nat → Nat} {em : List Nat} {base : Nat} {h : List (Nat × Blk)} (h1 : ∀ l, l < 1000 → s l = l) (h2 : ∀ k ∈ hlabs h, 1000 ≤ k → 1000 ≤ s k) (h3 : ∀ l ∈ hlabs h, ∀ k ∈ hlabs h, s l = s k → l = k)
    : ∀ (r : List (Nat × Blk)), (∀ p ∈ r, p ∈ h ∧ ∀ l ∈ labss p.2.cs, l < 1000 ∨ l ∈ hlabs h) → ∀ acc, putH (sig em base (mapS s h)) (mapS s r) acc = putH (sig em base h) r acc
  | [], _, acc => rfl
  | (l, B) :: r, hr, acc => by
    obtain ⟨hp, hc⟩ := hr (l, B) (by simp)
    have hm : l ∈ hlabs h := List.mem_map.2 ⟨_, hp, rfl⟩
    have e : mapS s ((l, B) :: r) = (s l, renB s B) :: mapS s r := rfl
    rw [e]
    simp only [putH]
    rw [putH_mapS h1 h2 h3 r (fun p hp => hr p (List.mem_cons_of_mem _ hp)), sig_mapS h1 h2 h3 (.inr hm)]
    congr 2
    simp only [renB, rens_comp]
    congr 1
    exact rens_congr _ fun k hk => sig_mapS h1 h2 h3 (hc k hk)

mutual
theorem labs_ren (s : Nat → Nat) : ∀ c : AV, labs (ren s c) = (labs c).map s
  | .ptr _ _ => rfl
  | .ref _ _ _ _ => rfl
  | .agg cs => by simp only [ren, labs, labss_rens s cs]
  | .tup cs => by simp only [ren, labs, labss_rens s cs]
  | .clo f cs => by simp only [ren, labs, labss_rens s cs]
  | .ifc ty c => by simp only [ren, labs, labs_ren s c]
  | .val _ => rfl
  | .sl _ _ => rfl
  | .fptr _ => rfl
  | .emp => rfl
  | .dead => rfl
theorem labss_rens (s : Nat → Nat) : ∀ cs : List AV, labss (rens s cs) = (labss cs).map s
  | [] => rfl
  | c :: cs => by simp only [rens, labss, labs_ren s c, labss_rens s cs, List.map_append]
end
/-- what the told result must be: by its own labels -/
structure TOk (em : List Nat) (base : Nat) (r0 : AV) (h0 : List (Nat × Blk)) : Prop where
  key : ∀ p ∈ h0, p.1 < em.length ∨ 1000 ≤ p.1
  full : ∀ p ∈ h0, p.1 < 1000 → p.2.cs ≠ []
  labr : ∀ l ∈ labs r0, l ∈ hlabs h0
  labh : ∀ p ∈ h0, ∀ l ∈ labss p.2.cs, l ∈ hlabs h0
  inj : ∀ l ∈ hlabs h0, ∀ k ∈ hlabs h0, sig em base h0 l = sig em base h0 k → l = k
theorem TOk.res {em : List Nat} {base : Nat} {r0 : AV} {h0 : List (Nat × Blk)} (ok : TOk em base r0 h0) {s : Nat → Nat} (he : em.length ≤ 1000) (h1 : ∀ l, l < 1000 → s l = l) (h2 : ∀ l ∈ hlabs h0, 1000 ≤ l → 1000 ≤ s l) (h3 : ∀ l ∈ hlabs h0, ∀ k ∈ hlabs h0, s l = s k → l = k) :
    ResOk em base (ren s r0) (mapS s h0) := by
  refine ⟨?_, ?_, ?_, ?_, ?_⟩
  · intro p hp
    obtain ⟨q, hq, rfl⟩ := List.mem_map.1 hp
    rcases Nat.lt_or_ge q.1 1000 with c | c
    · rw [show (s q.1, renB s q.2).1 = s q.1 from rfl, h1 _ c]
      rcases ok.key q hq with k | k
      · exact .inl k
      · omega
    · exact .inr (h2 _ (List.mem_map.2 ⟨q, hq, rfl⟩) c)
  · intro p hp hlt
    obtain ⟨q, hq, rfl⟩ := List.mem_map.1 hp
    have hlt : s q.1 < 1000 := hlt
    have c : q.1 < 1000 := by
      rcases Nat.lt_or_ge q.1 1000 with c | c
      · exact c
      · have := h2 _ (List.mem_map.2 ⟨q, hq, rfl⟩) c; omega
    have := ok.full q hq c
    show (renB s q.2).cs ≠ []
    simp only [renB]
    intro e
    cases hc : q.2.cs with
    | nil => exact this hc
    | cons a b => rw [hc] at e; simp [rens] at e
  · intro l hl
    rw [labs_ren] at hl
    obtain ⟨k, hk, rfl⟩ := List.mem_map.1 hl
    obtain ⟨q, hq, rfl⟩ := List.mem_map.1 (ok.labr k hk)
    exact ⟨_, List.mem_map.2 ⟨q, hq, rfl⟩, rfl⟩
  · intro p hp hb l hl
    obtain ⟨q, hq, rfl⟩ := List.mem_map.1 hp
    have hl : l ∈ labss (rens s q.2.cs) := hl
    rw [labss_rens] at hl
    obtain ⟨k, hk, rfl⟩ := List.mem_map.1 hl
    obtain ⟨q', hq', rfl⟩ := List.mem_map.1 (ok.labh q hq k hk)
    exact ⟨_, List.mem_map.2 ⟨q', hq', rfl⟩, rfl⟩
  · intro p hp q hq e
    obtain ⟨p', hp', rfl⟩ := List.mem_map.1 hp
    obtain ⟨q', hq', rfl⟩ := List.mem_map.1 hq
    have mp : p'.1 ∈ hlabs h0 := List.mem_map.2 ⟨p', hp', rfl⟩
    have mq : q'.1 ∈ hlabs h0 := List.mem_map.2 ⟨q', hq', rfl⟩
    have e : sig em base (mapS s h0) (s p'.1) = sig em base (mapS s h0) (s q'.1) := e
    rw [sig_mapS h1 h2 h3 (.inr mp), sig_mapS h1 h2 h3 (.inr mq)] at e
    show s p'.1 = s q'.1
    rw [ok.inj _ mp _ mq e]
/-- A call whose result is told by labels of the contract's own choice. -/
theorem AOL.callT {P : Program} {ops : Array Oper} {o : Oper} {os : List Oper} {K : St → Prop} {st st' : St} {g : FuncId} {as las : List AV} {hin : List (Nat × Blk)} {r0 : AV} {h0 : List (Nat × Blk)} (em : List Nat) (base : Nat)
    (hF : Fn P g las hin (Tells r0 h0))
    (hc : callL st ops.toList o = some (g, as)) (has : rens (nth em) las = as)
    (hcl : callable P g = true)
    (hlas : ∀ l ∈ labss las, l < em.length)
    (hhin : ∀ p ∈ hin, p.1 < em.length ∧ (∀ l ∈ labss p.2.cs, l < em.length) ∧ get? (nth em p.1) st.h = some (renB (nth em) p.2))
    (hok : TOk em base r0 h0)
    (hst : (st.after em base h0).put o.dst (ren (sig em base h0) r0) = st')
    (h : AOL P ops os K st') 
    (hem : em.Nodup := by decide) (he1 : em.length ≤ 1000 := by decide) (hb : 1000 ≤ base := by decide) : AOL P ops (o :: os) K st := by
  subst hst
  refine AOL.callR em base hem he1 hb hc has hlas hhin hcl hF ?_
  rintro r hh ⟨s, h1, h2, h3, rfl, rfl⟩
  refine ⟨hok.res he1 h1 h2 h3, ?_⟩
  have e1 : st.after em base (mapS s h0) = st.after em base h0 := by
    simp only [St.after]
    rw [consumed_mapS h1 h2 em 0 (by omega), newNames_mapS h1 h2 h3 h0 (fun _ h => h), putH_mapS h1 h2 h3 h0 (fun p hp => ⟨hp, fun l hl => .inr (hok.labh p hp l hl)⟩)]
  have e2 : ren (sig em base (mapS s h0)) (ren s r0) = ren (sig em base h0) r0 := by
    rw [ren_comp]
    exact ren_congr _ fun l hl => sig_mapS h1 h2 h3 (.inr (hok.labr l hl))
  rw [e1, e2]
  exact h

theorem nth_nil (l : Nat) : nth [] l = 0 := rfl
theorem ren_none {s : Nat → Nat} {c : AV} (h : labs c = []) : ren s c = c := by rw [ren_congr c (t := fun l => l) (by rw [h]; simp), ren_self]
theorem rens_none {s : Nat → Nat} {cs : List AV} (h : labss cs = []) : rens s cs = cs := by rw [rens_congr cs (t := fun l => l) (by rw [h]; simp), rens_self]
/-- A call without blocks of one's own, that tells a block of the caller's own. -/
theorem AOL.callO {P : Program} {ops : Array Oper} {o : Oper} {os : List Oper} {K : St → Prop} {st st' : St} {g : FuncId} {as : List AV} {r0 : AV} {B : Blk} (L : Nat)
    (hF : Fn P g as [] (Tells r0 [(1000, B)]))
    (hc : callL st ops.toList o = some (g, as)) (hcl : callable P g = true) (has : labss as = []) (hB : frees B.cs = true) (hr : ∀ l ∈ labs r0, l = 1000)
    (hL : 1000 ≤ L)
    (hst : ({ (st.drop L) with h := ins L B (st.drop L).h } : St).put o.dst (ren (fun _ => L) r0) = st')
    (h : AOL P ops os K st') : AOL P ops (o :: os) K st := by
  have hs : sig [] L [(1000, B)] 1000 = L := by
    unfold sig
    rw [if_neg (by omega)]
    show L + (if 1000 = 1000 then 0 else _) = L
    rw [if_pos rfl]; rfl
  refine AOL.callT [] L hF hc (rens_none has) hcl (by rw [has]; simp) (by simp) ?_ ?_ h (by simp) (by simp) hL
  · refine ⟨?_, ?_, ?_, ?_, ?_⟩
    · intro p hp; simp only [List.mem_singleton] at hp; subst hp; exact .inr (Nat.le_refl _)
    · intro p hp hl; simp only [List.mem_singleton] at hp; subst hp; exact absurd hl (Nat.lt_irrefl _)
    · intro l hl; rw [hr l hl]; exact List.mem_singleton_self _
    · intro p hp l hl; simp only [List.mem_singleton] at hp; subst hp
      rw [labss_free _ hB] at hl; cases hl
    · intro l hl k hk _; simp only [hlabs, List.map_cons, List.map_nil, List.mem_singleton] at hl hk; rw [hl, hk]
  · rw [← hst]
    have e1 : newNames [] L [(1000, B)] [(1000, B)] = [L] := by
      show (if 1000 < 1000 then _ else sig [] L [(1000, B)] 1000 :: []) = _
      rw [if_neg (by omega), hs]
    have e2 : st.after [] L [(1000, B)] = { (st.drop L) with h := ins L B (st.drop L).h } := by
      show ({ (st.drops ([] ++ newNames [] L [(1000, B)] [(1000, B)])) with h := putH (sig [] L [(1000, B)]) [(1000, B)] (st.drops ([] ++ newNames [] L [(1000, B)] [(1000, B)])).h } : St) = _
      rw [e1]
      show ({ (st.drop L) with h := ins (sig [] L [(1000, B)] 1000) (renB (sig [] L [(1000, B)]) B) (st.drop L).h } : St) = _
      rw [hs]
      have : renB (sig [] L [(1000, B)]) B = B := by unfold renB; rw [rens_free _ hB]
      rw [this]
    rw [e2]
    congr 1
    exact ren_congr _ fun l hl => by rw [hr l hl]; exact hs
/-- A call that is handed one block of the caller's own, and writes it. -/
theorem AOL.call1 {P : Program} {ops : Array Oper} {o : Oper} {os : List Oper} {K : St → Prop} {st st' : St} {g : FuncId} {as las : List AV} {r0 : AV} {B B' : Blk} (L : Nat)
    (hF : Fn P g las [(0, B)] (Tells r0 [(0, B')]))
    (hc : callL st ops.toList o = some (g, as)) (hcl : callable P g = true) (has : rens (fun _ => L) las = as) (hlas : ∀ l ∈ labss las, l = 0) (hB : frees B.cs = true) (hB' : frees B'.cs = true) (hr : ∀ l ∈ labs r0, l = 0) (h0 : B'.cs ≠ [])
    (hg : get? L st.h = some B)
    (hst : ({ st with h := ins L B' st.h } : St).put o.dst (ren (fun _ => L) r0) = st')
    (h : AOL P ops os K st') : AOL P ops (o :: os) K st := by
  refine AOL.callT (las := las) [L] 5000 hF hc ?_ hcl ?_ ?_ ?_ ?_ h (by simp) (by simp) (by decide)
  · rw [← has]; exact rens_congr _ fun l hl => by rw [hlas l hl]; rfl
  · intro l hl; rw [hlas l hl]; exact Nat.zero_lt_one
  · intro p hp
    simp only [List.mem_singleton] at hp; subst hp
    refine ⟨Nat.zero_lt_one, (by intro l hl; rw [labss_free _ hB] at hl; cases hl), ?_⟩
    show get? L st.h = some (renB (nth [L]) B)
    rw [hg]; unfold renB; rw [rens_free _ hB]
  · refine ⟨?_, ?_, ?_, ?_, ?_⟩
    · intro p hp; simp only [List.mem_singleton] at hp; subst hp; exact .inl Nat.zero_lt_one
    · intro p hp _; simp only [List.mem_singleton] at hp; subst hp; exact h0
    · intro l hl; rw [hr l hl]; exact List.mem_singleton_self _
    · intro p hp l hl; simp only [List.mem_singleton] at hp; subst hp
      rw [labss_free _ hB'] at hl; cases hl
    · intro l hl k hk _; simp only [hlabs, List.map_cons, List.map_nil, List.mem_singleton] at hl hk; rw [hl, hk]
  · rw [← hst]
    have e2 : st.after [L] 5000 [(0, B')] = { st with h := ins L B' st.h } := by
      show ({ st with h := ins L (renB (sig [L] 5000 [(0, B')]) B') st.h } : St) = _
      have : renB (sig [L] 5000 [(0, B')]) B' = B' := by unfold renB; rw [rens_free _ hB']
      rw [this]
    rw [e2]
    congr 1
    exact ren_congr _ fun l hl => by rw [hr l hl]; rfl

theorem Tells.one {r0 : AV} {B : Blk} (L : Nat) (hL : 1000 ≤ L) (hB : frees B.cs = true) : Tells r0 [(1000, B)] (ren (fun l => if l = 1000 then L else l) r0) [(L, B)] := by
  refine ⟨_, ?_, ?_, ?_, rfl, ?_⟩
  · intro l hl; rw [if_neg (by omega)]
  · intro l hl _; simp only [hlabs, List.map_cons, List.map_nil, List.mem_singleton] at hl; rw [if_pos hl]; exact hL
  · intro l hl k hk _; simp only [hlabs, List.map_cons, List.map_nil, List.mem_singleton] at hl hk; rw [hl, hk]
  · simp only [mapS, List.map_cons, List.map_nil, renB, rens_free _ hB, if_true]
theorem Tells.three {r0 : AV} {A B C : Blk} (La Lb Lc : Nat) (ha : 1000 ≤ La) (hb : 1000 ≤ Lb) (hc : 1000 ≤ Lc) (h1 : La ≠ Lb) (h2 : La ≠ Lc) (h3 : Lb ≠ Lc) (hA : frees A.cs = true) (hB : frees B.cs = true) (hC : frees C.cs = true) :
    Tells r0 [(1000, A), (1001, B), (1002, C)] (ren (fun l => if l = 1000 then La else if l = 1001 then Lb else if l = 1002 then Lc else l) r0) [(La, A), (Lb, B), (Lc, C)] := by
  have key : ∀ l, l ∈ hlabs [(1000, A), (1001, B), (1002, C)] → l = 1000 ∨ l = 1001 ∨ l = 1002 := by
    intro l hl; simpa [hlabs] using hl
  refine ⟨_, ?_, ?_, ?_, rfl, ?_⟩
  · intro l hl; rw [if_neg (by omega), if_neg (by omega), if_neg (by omega)]
  · intro l hl _; rcases key l hl with rfl | rfl | rfl <;> simp <;> omega
  · intro l hl k hk; rcases key l hl with rfl | rfl | rfl <;> rcases key k hk with rfl | rfl | rfl <;> simp <;> omega
  · simp [mapS, renB, rens_free _ hA, rens_free _ hB, rens_free _ hC]
theorem Tells.none {r0 : AV} (h : labs r0 = []) : Tells r0 [] r0 [] := by
  refine ⟨fun l => l, fun _ _ => rfl, by simp [hlabs], by simp [hlabs], ?_, rfl⟩
  rw [ren_none h]
theorem Tells.old {r0 : AV} {B : Blk} : Tells r0 [(0, B)] r0 [(0, B)] := Tells.self

/-! ### a fresh block of a result, frozen -/
theorem Fn.fz {P : Program} {f : FuncId} {as : List AV} {hin : List (Nat × Blk)} {R R' : AV → List (Nat × Blk) → Prop} (h : Fn P f as hin R)
    (hR : ∀ r h, R r h → ∃ l B, get? l h = some B ∧ (B.boxy = true → frees B.cs = true) ∧ R' (frz l B.cs r) (mapF l B.cs (del l h))) : Fn P f as hin R' := by
  intro ρ F w vs h1 h2
  refine (h ρ F w vs h1 h2).mono ?_
  rintro e w' ⟨v, ρ', F', r, hh, rfl, hRr, hvr, hhr, hfr⟩
  obtain ⟨l, B, hB, hbx, hR'⟩ := hR r hh hRr
  have hrel : Rel ρ' F' ⟨1, [(0, r)], hh⟩ { tmps := #[v], defers := [] } w' := by
    refine ⟨hhr, rfl, rfl, ?_⟩
    intro t x hx
    simp only [List.mem_singleton, Prod.mk.injEq] at hx
    obtain ⟨rfl, rfl⟩ := hx
    exact ⟨Nat.zero_lt_one, hvr⟩
  obtain ⟨ρ2, F2, hrel2, hfr2⟩ := Sub.freeze (st := ⟨1, [(0, r)], hh⟩) hB hbx ρ' F' _ _ hrel
  refine ⟨v, ρ2, F2, frz l B.cs r, mapF l B.cs (del l hh), rfl, hR', ?_, hrel2.heap, hfr.trans hfr2⟩
  exact (hrel2.tmps 0 (frz l B.cs r) (by simp [St.freeze, mapT])).2
/-- a result with one block of its own, frozen -/
theorem Fn.frozen {P : Program} {f : FuncId} {as : List AV} {hin : List (Nat × Blk)} {r0 : AV} {B : Blk} (h : Fn P f as hin (Tells r0 [(1000, B)])) (hb : frees B.cs = true) (hr : ∀ s : Nat → Nat, frz (s 1000) B.cs (ren s r0) = frz 1000 B.cs r0 := by intro s; simp only [ren, rens, frz, frzs, if_true]) :
    Fn P f as hin (fun r _ => r = frz 1000 B.cs r0) := by
  refine Fn.fz h ?_
  rintro r hh ⟨s, _, _, _, rfl, rfl⟩
  refine ⟨s 1000, renB s B, by simp [mapS, get?], fun _ => by simp only [renB, rens_free s hb, hb], ?_⟩
  simp only [renB, rens_free s hb]
  exact hr s
end Go.Proofs.YtjeafkodcmbabaaDoor.E
