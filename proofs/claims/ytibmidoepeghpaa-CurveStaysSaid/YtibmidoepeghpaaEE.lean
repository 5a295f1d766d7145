/- E, a reader of Go's code as the model has it: a contract of a function is proved over values that are told without memory (EE). -/
import Derived.Test.YtibmidoepeghpaaED

set_option linter.unusedVariables false
set_option linter.unusedSimpArgs false
open Go
namespace Go.Proofs.Ytibmidoepeghpaa.E
set_option linter.unusedVariables false
set_option linter.unusedSimpArgs false
/-! ## Steps whose bounds omega finds; ways that meet again; lists of things in memory -/
theorem wrapU_o {n : Int} (h0 : 0 ≤ n) (h1 : n < 18446744073709551616) : IntKind.u64.wrap n = n := by rw [IntKind.wrap_u64]; exact Int.emod_eq_of_lt h0 h1
theorem wrapI_o {n : Int} (h0 : -9223372036854775808 ≤ n) (h1 : n < 9223372036854775808) : IntKind.i64.wrap n = n := by
  simp only [IntKind.wrap, IntKind.bits, IntKind.signed]
  have : (2:Int)^64 = 18446744073709551616 := by decide
  have h2 : (2:Int)^(64-1) = 9223372036854775808 := by decide
  simp only [this, h2]
  simp
  omega
theorem AOL.o1 {P : Program} {ops : Array Oper} {K : St → Prop} {st st' : St} {o : Oper} {os : List Oper}
    (hr : stepL P ops.toList o st = some st' := by
      (try simp only [runK, stepL, memOp, pureOp, gOkL, dstAt, dOk, St.eval, St.evalO, get?, St.put, ins, del, AV.ofV, aBinAll, aBin, aBinI, aBinA, csEq, cEq, rI, isC, aUn, aConv, aStr, nums_by8, aIface, aNil, aCallB, aLen, aMinMax, intOf?, bnd,
        Go.Proofs.Ytibmidoepeghpaa.E.ld, Go.Proofs.Ytibmidoepeghpaa.E.part, Go.Proofs.Ytibmidoepeghpaa.E.takeAgg_tk, Go.Proofs.Ytibmidoepeghpaa.E.tk, aFieldAddr, aIndexAddr, aField, aIndex, aBuildSlice, cBuild, aAlloc, aStore, aApp, srcCells, aFill, mapM?, St.parts, St.new, St.drop, mapT, mapH, kill, kills, AV.cells, AV.fits, AV.one, AV.free, frees, splice, cyc, lab, Value.oneCell', Value.cells,
        Option.bind_some, Option.map_some, Option.bind_none, Option.map_none, decide_true, decide_false, if_true, if_false, reduceIte, reduceCtorEq, Bool.false_eq_true, Nat.reduceLT, Nat.reduceEqDiff, Nat.reduceAdd, Nat.reduceMul, Nat.reduceLeDiff, Nat.reduceSub, Nat.zero_add, Nat.add_zero, Nat.zero_mul, Nat.one_mul, Nat.mul_one, Int.toNat_natCast, Int.toNat_zero,
        List.drop_succ_cons, List.drop_zero, List.take_succ_cons, List.take_zero, List.length_cons, List.length_nil, List.head?_cons, List.map_cons, List.map_nil, List.all_cons, List.all_nil, List.cons_append, List.nil_append, List.append_nil, List.set_cons_zero, List.set_cons_succ, List.getElem?_cons_zero, List.getElem?_cons_succ, Bool.not_true, Bool.not_false, beq_true, beq_false, Bool.true_beq, Bool.false_beq, Bool.and_self, Bool.and_true, Bool.true_and, and_self, and_true, true_and, false_implies, true_implies, implies_true, bne_self_eq_false, beq_self_eq_true, Option.isSome_some, List.all, *])
      (try simp (disch := omega) only [wrapU_o, wrapI_o, if_pos, if_neg])
      (try simp only [runK, stepL, memOp, pureOp, gOkL, dstAt, dOk, St.eval, St.evalO, get?, St.put, ins, del, AV.ofV, aBinAll, aBin, aBinI, aBinA, csEq, cEq, rI, isC, aUn, aConv, aStr, nums_by8, aIface, aNil, aCallB, aLen, aMinMax, intOf?, bnd,
        Go.Proofs.Ytibmidoepeghpaa.E.ld, Go.Proofs.Ytibmidoepeghpaa.E.part, Go.Proofs.Ytibmidoepeghpaa.E.takeAgg_tk, Go.Proofs.Ytibmidoepeghpaa.E.tk, aFieldAddr, aIndexAddr, aField, aIndex, aBuildSlice, cBuild, aAlloc, aStore, aApp, srcCells, aFill, mapM?, St.parts, St.new, St.drop, mapT, mapH, kill, kills, AV.cells, AV.fits, AV.one, AV.free, frees, splice, cyc, lab, Value.oneCell', Value.cells,
        Option.bind_some, Option.map_some, Option.bind_none, Option.map_none, decide_true, decide_false, if_true, if_false, reduceIte, reduceCtorEq, Bool.false_eq_true, Nat.reduceLT, Nat.reduceEqDiff, Nat.reduceAdd, Nat.reduceMul, Nat.reduceLeDiff, Nat.reduceSub, Nat.zero_add, Nat.add_zero, Nat.zero_mul, Nat.one_mul, Nat.mul_one, Int.toNat_natCast, Int.toNat_zero,
        List.drop_succ_cons, List.drop_zero, List.take_succ_cons, List.take_zero, List.length_cons, List.length_nil, List.head?_cons, List.map_cons, List.map_nil, List.all_cons, List.all_nil, List.cons_append, List.nil_append, List.append_nil, List.set_cons_zero, List.set_cons_succ, List.getElem?_cons_zero, List.getElem?_cons_succ, Bool.not_true, Bool.not_false, beq_true, beq_false, Bool.true_beq, Bool.false_beq, Bool.and_self, Bool.and_true, Bool.true_and, and_self, and_true, true_and, false_implies, true_implies, implies_true, bne_self_eq_false, beq_self_eq_true, Option.isSome_some, List.all, *])
      exact rfl)
    (h : AOL P ops os K st') : AOL P ops (o :: os) K st := AOL.run 1 (os' := os) (by simp only [runK, hr, Option.bind_some]) h

theorem AW.midK {P : Program} {c y : Code} {K K0 : Exit → St → Prop} {st : St} (ks : List Nat) (J : St → Prop) (h1 : AW P c (Kloop (fun s => J (s.keep ks)) K) st) (h2 : ∀ s, J s → AW P y K0 s) (hk : ∀ s, AW P y K0 s → K .normal s := by exact fun _ h => h) : AW P c K st :=
  AW.mono h1 fun e s => by
    cases e with
    | normal => exact fun h => hk _ (AW.sub (Sub.keep s ks) (h2 _ h))
    | _ => exact fun h => h
theorem AW.kq {P : Program} {c : Code} {K : Exit → St → Prop} {st : St} {n : Nat} {t0 t : List (Nat × AV)} {h0 : List (Nat × Blk)} (ks : List Nat) (he : st = ⟨n, t0, h0⟩ := by exact rfl) (ht : keepT ks t0 = t := by simp only [keepT, List.contains_cons, List.contains_nil, BEq.rfl, Bool.or_true, Bool.true_or, Bool.or_false, Bool.false_or, Nat.reduceBEq, if_true, if_false, reduceIte, Bool.false_eq_true]; exact rfl)
    (h : AW P c K ⟨n, t, h0⟩) : AW P c K st := by
  subst he; subst ht; exact AW.sub (Sub.keep _ ks) h
theorem AOL.kq {P : Program} {ops : Array Oper} {os : List Oper} {K : St → Prop} {st : St} {n : Nat} {t0 t : List (Nat × AV)} {h0 : List (Nat × Blk)} (ks : List Nat) (he : st = ⟨n, t0, h0⟩ := by exact rfl) (ht : keepT ks t0 = t := by simp only [keepT, List.contains_cons, List.contains_nil, BEq.rfl, Bool.or_true, Bool.true_or, Bool.or_false, Bool.false_or, Nat.reduceBEq, if_true, if_false, reduceIte, Bool.false_eq_true]; exact rfl)
    (h : AOL P ops os K ⟨n, t, h0⟩) : AOL P ops os K st := by
  subst he; subst ht; exact AOL.subst_ (Sub.keep _ ks) h
/-- both ways of a guard, told as one -/
theorem AOL.and {P : Program} {ops : Array Oper} {os os' : List Oper} {K : St → Prop} {st : St} {b x : Bool} {f : Bool → St} (g t : Nat) (hg : get? g st.t = some (.val (.bool b)) := by exact rfl)
    (hs : ∀ v, ({ st with t := ins t (.val (.bool v)) (del g st.t) } : St) = f v := by intro v_; simp only [ins, del, reduceIte, Nat.reduceLT, Nat.reduceEqDiff]; exact rfl)
    (h1 : b = true → ∀ K', AOL P ops os' K' (f x) → AOL P ops os K' st) (h0 : b = false → ∀ K', AOL P ops os' K' (f false) → AOL P ops os K' st) (h : AOL P ops os' K (f (b && x))) : AOL P ops os K st := by
  cases b
  · exact h0 rfl K h
  · exact h1 rfl K h
theorem AOL.or {P : Program} {ops : Array Oper} {os os' : List Oper} {K : St → Prop} {st : St} {b x : Bool} {f : Bool → St} (g t : Nat) (hg : get? g st.t = some (.val (.bool b)) := by exact rfl)
    (hs : ∀ v, ({ st with t := ins t (.val (.bool v)) (del g st.t) } : St) = f v := by intro v_; simp only [ins, del, reduceIte, Nat.reduceLT, Nat.reduceEqDiff]; exact rfl)
    (h1 : b = true → ∀ K', AOL P ops os' K' (f true) → AOL P ops os K' st) (h0 : b = false → ∀ K', AOL P ops os' K' (f x) → AOL P ops os K' st) (h : AOL P ops os' K (f (b || x))) : AOL P ops os K st := by
  cases b
  · exact h0 rfl K h
  · exact h1 rfl K h

/-- an operation that reads slots which later ones write -/
def lateB (pre : List Oper) (i : Nat) (ks : List Nat) : Bool := pre.all fun o => match o.dst with | some d => !(ks.contains d) || (predsL o.after.toList).contains i | none => true
theorem ADL.l1 {P : Program} {id : Nat} {ops : Array Oper} {m : Nat} {Ls : List Nat} {K : Exit → St → Prop} {st : St} {pre : List Oper} {st1 : St} {base : List (Nat × AV)} {o : Oper} {os : List Oper} {vs : List (AV × Option Blk)} {v : AV × Option Blk} (ks : List Nat)
    (hlate : lateB pre vs.length ks = true)
    (hr : dStepL P st.n ops.toList Ls ⟨st1.n, pickT (predsL o.after.toList) 0 pre vs (keepT ks st1.t ++ base), st1.h⟩ o = some v := by
      simp only [keepT, List.contains_cons, List.contains_nil, BEq.rfl, Bool.or_true, Bool.true_or, Bool.or_false, Bool.false_or, Nat.reduceBEq, dRunK, dStepL, dVw, pickT, predsL, inL, dEval, lOk, runK, stepL, memOp, pureOp, gOkL, dstAt, dOk, St.eval, St.evalO, get?, St.put, ins, del, AV.ofV, aBinAll, aBin, aBinI, aBinA, csEq, cEq, rI, isC, aUn, aConv, aStr, nums_by8, aIface, aNil, aCallB, aLen, aMinMax, intOf?, bnd,
        Go.Proofs.Ytibmidoepeghpaa.E.ld, Go.Proofs.Ytibmidoepeghpaa.E.part, Go.Proofs.Ytibmidoepeghpaa.E.takeAgg_tk, Go.Proofs.Ytibmidoepeghpaa.E.tk, aFieldAddr, aIndexAddr, aField, aIndex, aBuildSlice, cBuild, aAlloc, aStore, aApp, srcCells, aFill, mapM?, St.parts, St.new, St.drop, mapT, mapH, kill, kills, AV.cells, AV.fits, AV.one, AV.free, frees, splice, cyc, lab, Value.oneCell', Value.cells,
        Option.bind_some, Option.map_some, Option.bind_none, Option.map_none, decide_true, decide_false, if_true, if_false, reduceIte, reduceCtorEq, Bool.false_eq_true, Nat.reduceLT, Nat.reduceEqDiff, Nat.reduceAdd, Nat.reduceMul, Nat.reduceLeDiff, Nat.reduceSub, Nat.zero_add, Nat.add_zero, Nat.zero_mul, Nat.one_mul, Nat.mul_one, Int.toNat_natCast, Int.toNat_zero,
        List.drop_succ_cons, List.drop_zero, List.take_succ_cons, List.take_zero, List.length_cons, List.length_nil, List.head?_cons, List.map_cons, List.map_nil, List.all_cons, List.all_nil, List.cons_append, List.nil_append, List.append_nil, List.set_cons_zero, List.set_cons_succ, List.getElem?_cons_zero, List.getElem?_cons_succ, Bool.not_true, Bool.not_false, beq_true, beq_false, Bool.true_beq, Bool.false_beq, Bool.and_self, Bool.and_true, Bool.true_and, and_self, and_true, true_and, false_implies, true_implies, implies_true, bne_self_eq_false, beq_self_eq_true, Option.isSome_some, List.all, *]
      exact rfl)
    (h : ADL P id ops m Ls K st pre st1 base os (vs ++ [v])) : ADL P id ops m Ls K st pre st1 base (o :: os) vs := by
  intro hok hpre hst hbase hos
  have h' := h hok hpre hst hbase (by rw [List.length_append]; simp only [List.length_cons, List.length_nil, Nat.zero_add]; rw [← List.drop_drop, hos]; rfl)
  simp only [drawOk, Bool.and_eq_true, decide_eq_true_eq] at hok
  obtain ⟨he, _⟩ := hok
  have ho : pre[vs.length]? = some o := by
    have := congrArg (·[0]?) hos
    simpa using this
  subst hpre
  have hL : LateOk (st.drops Ls) (ops.toList.take m) vs.length (keepT ks (st.drops Ls).t) := by
    intro p hp
    refine ⟨mem_keepT hp, fun j o' hj hd => ?_⟩
    have hk : ks.contains p.1 = true := by
      have key : ∀ (l : List (Nat × AV)), p ∈ keepT ks l → ks.contains p.1 = true := by
        intro l
        induction l with
        | nil => intro h; cases h
        | cons q l ih =>
          obtain ⟨k, x⟩ := q
          intro h
          simp only [keepT] at h
          split at h
          · rcases List.mem_cons.1 h with rfl | h
            · assumption
            · exact ih h
          · exact ih h
      exact key _ hp
    have := List.all_eq_true.1 hlate o' (List.mem_of_getElem? hj)
    rw [hd] at this
    simp only [hk, Bool.not_true, Bool.false_or] at this
    rw [predsL_eq] at this
    simpa [dpreds] using this
  have hvw : (⟨st1.n, pickT (predsL o.after.toList) 0 (ops.toList.take m) vs (keepT ks st1.t ++ base), st1.h⟩ : St) = dViewL (st.drops Ls) (ops.toList.take m) vs (keepT ks (st.drops Ls).t) o := by
    subst hst hbase
    simp only [dViewL, pickT_eq, predsL_eq, dpreds]
  rw [hvw] at hr
  unfold dStepL at hr
  rw [gOkL_eq] at hr
  split at hr
  · rename_i hd hg
    cases hr
    exact AD.snoc he ho (by cases o.dst <;> simp [lOk]) ⟨by rw [drops_n]; exact hd, _, hL, .inl ⟨hg, rfl⟩⟩ h'
  · rename_i hd hg
    simp only [Option.bind_eq_some_iff] at hr
    obtain ⟨v', hv, hr⟩ := hr
    split at hr
    · rename_i hl
      cases hr
      exact AD.snoc he ho hl ⟨by rw [drops_n]; exact hd, _, hL, .inr ⟨hg, .inl hv⟩⟩ h'
    · cases hr
  · cases hr

/-! ### what can be compared, told so that the kernel reckons it -/
def eqFg (P : Program) (g : TypeId → Option (List Ck)) : List Field → Nat → Option (List Ck)
  | [], _ => some []
  | f :: fs, off => if f.name ≠ "_" ∧ f.offset = off then (g f.type).bind fun k => if tSz P f.type = some k.length ∧ 0 < k.length then (eqFg P g fs (off + k.length)).map (k ++ ·) else none else none
def eqS (P : Program) : Nat → TypeId → Option (List Ck)
  | 0, _ => none
  | d + 1, t => match P.underlying t with
    | some .bool => some [.bool]
    | some (.int _) => some [.int]
    | some .string => some [.string]
    | some (.struct fs) => if P.stoodInHeld t then none else eqFg P (eqS P d) fs.toList 0
    | some (.array n e) => (eqS P d e).bind fun k => if tSz P e = some k.length ∧ 0 < k.length then some (List.replicate n k).flatten else none
    | _ => none
theorem eqFg_eq {P : Program} {g : TypeId → Option (List Ck)} {d : Nat} (hg : ∀ t, g t = eqN P d t) : ∀ (fs : List Field) (off : Nat), eqFg P g fs off = eqF P d fs off
  | [], off => by simp only [eqFg, eqF]
  | f :: fs, off => by
    simp only [eqFg, eqF, hg]
    split
    · congr 1; funext k
      split
      · rw [eqFg_eq hg fs]
      · rfl
    · rfl
theorem eqS_eq {P : Program} : ∀ (d : Nat) (t : TypeId), eqS P d t = eqN P d t
  | 0, t => by simp only [eqS, eqN]
  | d + 1, t => by
    simp only [eqS, eqN]
    cases P.underlying t with
    | none => rfl
    | some x => cases x <;> first | rfl | (simp only [eqFg_eq (eqS_eq d)]; done) | (simp only [eqS_eq d]; done)
theorem eqT_of {P : Program} {t : TypeId} {ks : List Ck} (h1 : tAgg P t = some true) (h2 : P.eqGuardType P.depth t = false) (h3 : eqS P 100 t = some ks) : eqT P t = some ks := by
  unfold eqT
  rw [h1]
  simp only [h2, Bool.false_eq_true, if_false]
  rw [← eqS_eq]; exact h3

/-! ### a drawn region in every order, one after the other -/
def AAny (P : Program) (ops : Array Oper) (fuel : Nat) (listed : Array Bool) (K : St → Prop) (st : St) : Prop :=
  ∀ ρ F a w (Q : Exit → Act → World → Prop), Rel ρ F st a w → (∀ st' ρ' F' a' w', K st' → Rel ρ' F' st' a' w' → Fr ρ F w ρ' F' w' → Q .normal a' w') → wpAny P .any ops Q fuel listed a w
theorem AAny.done {P : Program} {ops : Array Oper} {listed : Array Bool} {K : St → Prop} {st : St} (hr : Region.ready .any ops listed = []) (h : K st) : AAny P ops 0 listed K st :=
  fun ρ F a w Q hR hQ => ⟨hr, hQ _ _ _ _ _ h hR (Fr.refl _ _ _)⟩
def AAll (P : Program) (ops : Array Oper) (fuel : Nat) (listed : Array Bool) : List Nat → (St → Prop) → St → Prop
  | [], _, _ => True
  | i :: r, K, st => (∃ st', stepOp P ops i st = some st' ∧ AAny P ops fuel (listed.setIfInBounds i true) K st') ∧ AAll P ops fuel listed r K st
theorem AAll.mem {P : Program} {ops : Array Oper} {fuel : Nat} {listed : Array Bool} {K : St → Prop} {st : St} : ∀ {rs : List Nat} {i : Nat}, AAll P ops fuel listed rs K st → i ∈ rs → ∃ st', stepOp P ops i st = some st' ∧ AAny P ops fuel (listed.setIfInBounds i true) K st'
  | [], i, _, h => by cases h
  | j :: r, i, h, hi => by
    simp only [AAll] at h
    rcases List.mem_cons.1 hi with rfl | hi
    · exact h.1
    · exact AAll.mem h.2 hi
theorem stepOp_any {P : Program} {ops : Array Oper} {i : Nat} {st st' : St} (h : stepOp P ops i st = some st') {ρ F a w} (hR : Rel ρ F st a w) :
    ∃ a' w' ρ', Rel ρ' F st' a' w' ∧ Fr ρ F w ρ' F w' ∧ ∀ (Q : Exit → Act → World → Prop) (N : Act → World → Prop), N a' w' → wpOp P ops Q i N a w := by
  unfold stepOp at h
  split at h
  · cases h
  · rename_i o ho
    split at h
    · rename_i hd
      have hd := dOk_lt hd
      split at h
      · cases h
      · rename_i hg
        have hw := gOk_rel hR hg
        simp only [Option.map_eq_some_iff] at h
        obtain ⟨⟨v, s1⟩, hm, rfl⟩ := h
        obtain ⟨nx, u, w', ρ', hr, hnx, hR', hv, hF⟩ := memOp_run hR hm
        have hn := memOp_n hm hR hR'
        refine ⟨a.put o.dst u, w', ρ', hR'.put (by rw [hn]; exact hd) hv, hF, ?_⟩
        intro Q N hq
        simp only [wpOp, ho, hw, if_true]
        refine .inl ?_
        simp only [Oper.wp, hr]
        rcases hnx with rfl | ⟨rfl, rfl⟩ <;> exact hq
      · rename_i hg
        have hw := gOk_rel hR hg
        cases h
        refine ⟨a.put o.dst undef, w, ρ, hR.put hd (by simp only [VR]; rfl), Fr.refl _ _ _, ?_⟩
        intro Q N hq
        simp only [wpOp, ho, hw, Bool.false_eq_true, if_false]
        exact hq
    · cases h
theorem AAny.step {P : Program} {ops : Array Oper} {fuel : Nat} {listed : Array Bool} {K : St → Prop} {st : St} (rs : List Nat) (hrs : Region.ready .any ops listed = rs) (hne : rs.isEmpty = false) (h : AAll P ops fuel listed rs K st) : AAny P ops (fuel + 1) listed K st := by
  subst hrs
  intro ρ F a w Q hR hQ
  refine ⟨fun h0 => (by rw [h0] at hne; cases hne), ?_⟩
  intro i hi
  obtain ⟨st', hs, hk⟩ := h.mem hi
  obtain ⟨a', w', ρ', hR', hF, hw⟩ := stepOp_any hs hR
  exact hw Q _ (hk ρ' F a' w' Q hR' fun st'' ρ'' F'' a'' w'' h1 h2 h3 => hQ st'' ρ'' F'' a'' w'' h1 h2 (hF.trans h3))
theorem AAll.nil {P : Program} {ops : Array Oper} {fuel : Nat} {listed : Array Bool} {K : St → Prop} {st : St} : AAll P ops fuel listed [] K st := trivial
def nthO : List Oper → Nat → Option Oper
  | [], _ => none
  | o :: _, 0 => some o
  | _ :: r, i + 1 => nthO r i
theorem nthO_eq : ∀ (l : List Oper) (i : Nat), nthO l i = l[i]?
  | [], _ => rfl
  | o :: _, 0 => rfl
  | _ :: r, i + 1 => by simp only [nthO, nthO_eq r i, List.getElem?_cons_succ]
theorem AAll.cons {P : Program} {ops : Array Oper} {fuel : Nat} {listed : Array Bool} {K : St → Prop} {st st' : St} {i : Nat} {r : List Nat} {o : Oper} (ho : nthO ops.toList i = some o)
    (hr : stepL P ops.toList o st = some st' := by
      simp only [runK, stepL, memOp, pureOp, gOkL, dstAt, dOk, St.eval, St.evalO, get?, St.put, ins, del, AV.ofV, aBinAll, aBin, aBinI, aBinA, csEq, cEq, rI, isC, aUn, aConv, aStr, nums_by8, aIface, aNil, aCallB, aLen, aMinMax, intOf?, bnd,
        Go.Proofs.Ytibmidoepeghpaa.E.ld, Go.Proofs.Ytibmidoepeghpaa.E.part, Go.Proofs.Ytibmidoepeghpaa.E.takeAgg_tk, Go.Proofs.Ytibmidoepeghpaa.E.tk, aFieldAddr, aIndexAddr, aField, aIndex, aBuildSlice, cBuild, aAlloc, aStore, aApp, srcCells, aFill, mapM?, St.parts, St.new, St.drop, mapT, mapH, kill, kills, AV.cells, AV.fits, AV.one, AV.free, frees, splice, cyc, lab, Value.oneCell', Value.cells,
        Option.bind_some, Option.map_some, Option.bind_none, Option.map_none, decide_true, decide_false, if_true, if_false, reduceIte, reduceCtorEq, Bool.false_eq_true, Nat.reduceLT, Nat.reduceEqDiff, Nat.reduceAdd, Nat.reduceMul, Nat.reduceLeDiff, Nat.reduceSub, Nat.zero_add, Nat.add_zero, Nat.zero_mul, Nat.one_mul, Nat.mul_one, Int.toNat_natCast, Int.toNat_zero,
        List.drop_succ_cons, List.drop_zero, List.take_succ_cons, List.take_zero, List.length_cons, List.length_nil, List.head?_cons, List.map_cons, List.map_nil, List.all_cons, List.all_nil, List.cons_append, List.nil_append, List.append_nil, List.set_cons_zero, List.set_cons_succ, List.getElem?_cons_zero, List.getElem?_cons_succ, Bool.not_true, Bool.not_false, beq_true, beq_false, Bool.true_beq, Bool.false_beq, Bool.and_self, Bool.and_true, Bool.true_and, and_self, and_true, true_and, false_implies, true_implies, implies_true, bne_self_eq_false, beq_self_eq_true, Option.isSome_some, List.all, *]
      exact rfl)
    (h1 : AAny P ops fuel (listed.setIfInBounds i true) K st') (h2 : AAll P ops fuel listed r K st) : AAll P ops fuel listed (i :: r) K st :=
  ⟨⟨st', by rw [stepL_eq (by rw [← Array.getElem?_toList, ← nthO_eq]; exact ho)]; exact hr, h1⟩, h2⟩
theorem AW.anyO {P : Program} {id : Nat} {ops : Array Oper} {K : Exit → St → Prop} {st st1 : St} (hmix : P.follows .mixedOrders = true) (h : AAny P ops ops.size (Array.replicate ops.size false) (fun s => s = st1) st) (hk : K .normal st1) : AW P (.region id ops true) K st := by
  intro ρ F a w Q hR hQ
  refine wp_region_any hmix ?_
  have hw1 : Rel ρ F st a { w with drawn := w.drawn + 1 } :=
    ⟨⟨fun l B hB => by
        rcases hR.heap.blk l B hB with h | ⟨r, m, c, h1, h2, h3, us, h4, h5⟩
        · exact .inl h
        · exact .inr ⟨r, m, c, h1, h2, h3, us, VRs.keep (w := w) (w' := { w with drawn := w.drawn + 1 }) (fun _ h => h) (fun _ _ _ _ h => h) (fun _ _ h => h) _ _ h4, h5⟩, hR.heap.inj, hR.heap.apart, hR.heap.lt, hR.heap.flt⟩, hR.size, hR.defers,
      fun t v hv => ⟨(hR.tmps t v hv).1, VR.keep (w := w) (w' := { w with drawn := w.drawn + 1 }) (fun _ h => h) (fun _ _ _ _ h => h) (fun _ _ h => h) _ _ (hR.tmps t v hv).2⟩⟩
  have hFd : Fr ρ F w ρ F { w with drawn := w.drawn + 1 } :=
    ⟨rfl, rfl, rfl, Nat.le_refl _, fun _ _ _ => rfl, fun _ h => h, fun _ h => .inl h, fun l r m h => .inl ⟨l, m, h⟩, fun _ _ x y h k => by rw [h] at k; exact Option.some.inj k, fun _ _ h => h⟩
  refine h ρ F a _ Q hw1 fun st' ρ' F' a' w' h1 h2 h3 => ?_
  subst h1
  exact hQ _ _ _ _ _ _ hk h2 (hFd.trans h3)

def fm {α : Type} (f : α → List AV) : List α → List AV
  | [] => []
  | a :: l => f a ++ fm f l
theorem fm_drop {α : Type} {f : α → List AV} {z : Nat} (hz : ∀ a, (f a).length = z) : ∀ {L : List α} {k : Nat} {a : α} {r : List α}, L.drop k = a :: r → (fm f L).drop (k * z) = f a ++ fm f r
  | [], k, h, r, e => by simp at e
  | g :: l, 0, h, r, e => by simp at e; obtain ⟨rfl, rfl⟩ := e; simp [fm]
  | g :: l, k + 1, h, r, e => by
    simp only [fm]
    rw [Nat.add_mul, Nat.one_mul, Nat.add_comm, ← List.drop_drop]
    have : (f g ++ fm f l).drop z = fm f l := by rw [← hz g]; simp
    rw [this]
    exact fm_drop hz (by simpa using e)
theorem fm_at {α : Type} {f : α → List AV} {z : Nat} (hz : ∀ a, (f a).length = z) {L : List α} {k : Nat} (hk : k < L.length) : (fm f L).drop (k * z) = f L[k] ++ fm f (L.drop (k + 1)) :=
  fm_drop hz (List.drop_eq_getElem_cons hk)
theorem fm_len {α : Type} {f : α → List AV} {z : Nat} (hz : ∀ a, (f a).length = z) : ∀ (L : List α), (fm f L).length = L.length * z
  | [] => by simp [fm]
  | a :: l => by simp only [fm, List.length_append, hz, fm_len hz l, List.length_cons, Nat.add_mul]; omega
theorem fm_app {α : Type} {f : α → List AV} : ∀ (F G : List α), fm f (F ++ G) = fm f F ++ fm f G
  | [], G => rfl
  | a :: F, G => by simp [fm, fm_app F G]
theorem fm_snoc {α : Type} {f : α → List AV} (F : List α) (a : α) : fm f F ++ f a = fm f (F ++ [a]) := by rw [fm_app]; simp [fm]
abbrev slF {α : Type} (f : α → List AV) (L : List α) : AV := .sl L.length (fm f L)
end Go.Proofs.Ytibmidoepeghpaa.E
