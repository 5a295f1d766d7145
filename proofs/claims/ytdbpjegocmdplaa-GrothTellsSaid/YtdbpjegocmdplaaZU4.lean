/- Texts joined: ZTEE, ZTModA, ZTShB, ZTModB, ZTModC, ZTModI, ZTCurA, ZTCurB. -/
import Derived.Test.YtdbpjegocmdplaaZU3
import Derived.Test.YtdbpjegocmdplaaProg
import Derived.KernelRfl
import Derived.Shelf.Small.Bits
import Derived.Shelf.Strconv.Itoa0
import Derived.Shelf.Bits.Mul64
import Derived.Test.YtdbpjegocmdplaaZU1
section
/- E, a reader of Go's code «as» the model has it: a contract of a function is proved over values that are told without memory (EE). -/

set_option linter.unusedVariables false
set_option linter.unusedSimpArgs false
open Go
namespace Go.Proofs.Ytdbpjegocmdplaa.E
set_option linter.unusedVariables false
set_option linter.unusedSimpArgs false
/-! ## Steps whose bounds omega finds; ways that meet again; lists of things in memory -/
theorem wrapU_o {n : Int} (h0 : 0 ≤ n) (h1 : n < 18446744073709551616) : IntKind.u64.wrap n = n := by rw [IntKind.wrap_u64]; exact Int.emod_eq_of_lt h0 h1
theorem wrapI_o {n : Int} (h0 : -9223372036854775808 ≤ n) (h1 : n < 9223372036854775808) : IntKind.i64.wrap n = n := by
  simp only [IntKind.wrap, IntKind.bits, IntKind.signed]
  have : (2:Int)^64 = 18446744073709551616 := by decide
  have h2 : (2:Int)^(64-1) = 9223372036854775808 := by decide
  simp only [this, h2]
  simp
  omega
theorem AOL.o1 {P : Program} {ops : Array Oper} {K : St → Prop} {st st' : St} {o : Oper} {os : List Oper}
    (hr : stepL P ops.toList o st = some st' := by
      (try simp only [runK, stepL, memOp, pureOp, gOkL, dstAt, dOk, St.eval, St.evalO, get?, St.put, ins, del, AV.ofV, aBinAll, aBin, aBinI, aBinA, csEq, cEq, rI, isC, aUn, aConv, aStr, nums_by8, aIface, aNil, aCallB, aLen, aMinMax, intOf?, bnd,
        Go.Proofs.Ytdbpjegocmdplaa.E.ld, Go.Proofs.Ytdbpjegocmdplaa.E.part, Go.Proofs.Ytdbpjegocmdplaa.E.takeAgg_tk, Go.Proofs.Ytdbpjegocmdplaa.E.tk, aFieldAddr, aIndexAddr, aField, aIndex, aBuildSlice, cBuild, aAlloc, aStore, aApp, srcCells, aFill, mapM?, St.parts, St.new, St.drop, mapT, mapH, kill, kills, AV.cells, AV.fits, AV.one, AV.free, frees, splice, cyc, lab, Value.oneCell', Value.cells,
        Option.bind_some, Option.map_some, Option.bind_none, Option.map_none, decide_true, decide_false, if_true, if_false, reduceIte, reduceCtorEq, Bool.false_eq_true, Nat.reduceLT, Nat.reduceEqDiff, Nat.reduceAdd, Nat.reduceMul, Nat.reduceLeDiff, Nat.reduceSub, Nat.zero_add, Nat.add_zero, Nat.zero_mul, Nat.one_mul, Nat.mul_one, Int.toNat_natCast, Int.toNat_zero,
        List.drop_succ_cons, List.drop_zero, List.take_succ_cons, List.take_zero, List.length_cons, List.length_nil, List.head?_cons, List.map_cons, List.map_nil, List.all_cons, List.all_nil, List.cons_append, List.nil_append, List.append_nil, List.set_cons_zero, List.set_cons_succ, List.getElem?_cons_zero, List.getElem?_cons_succ, Bool.not_true, Bool.not_false, beq_true, beq_false, Bool.true_beq, Bool.false_beq, Bool.and_self, Bool.and_true, Bool.true_and, and_self, and_true, true_and, false_implies, true_implies, implies_true, bne_self_eq_false, beq_self_eq_true, Option.isSome_some, List.all, *])
      (try simp (disch := omega) only [wrapU_o, wrapI_o, if_pos, if_neg])
      (try simp only [runK, stepL, memOp, pureOp, gOkL, dstAt, dOk, St.eval, St.evalO, get?, St.put, ins, del, AV.ofV, aBinAll, aBin, aBinI, aBinA, csEq, cEq, rI, isC, aUn, aConv, aStr, nums_by8, aIface, aNil, aCallB, aLen, aMinMax, intOf?, bnd,
        Go.Proofs.Ytdbpjegocmdplaa.E.ld, Go.Proofs.Ytdbpjegocmdplaa.E.part, Go.Proofs.Ytdbpjegocmdplaa.E.takeAgg_tk, Go.Proofs.Ytdbpjegocmdplaa.E.tk, aFieldAddr, aIndexAddr, aField, aIndex, aBuildSlice, cBuild, aAlloc, aStore, aApp, srcCells, aFill, mapM?, St.parts, St.new, St.drop, mapT, mapH, kill, kills, AV.cells, AV.fits, AV.one, AV.free, frees, splice, cyc, lab, Value.oneCell', Value.cells,
        Option.bind_some, Option.map_some, Option.bind_none, Option.map_none, decide_true, decide_false, if_true, if_false, reduceIte, reduceCtorEq, Bool.false_eq_true, Nat.reduceLT, Nat.reduceEqDiff, Nat.reduceAdd, Nat.reduceMul, Nat.reduceLeDiff, Nat.reduceSub, Nat.zero_add, Nat.add_zero, Nat.zero_mul, Nat.one_mul, Nat.mul_one, Int.toNat_natCast, Int.toNat_zero,
        List.drop_succ_cons, List.drop_zero, List.take_succ_cons, List.take_zero, List.length_cons, List.length_nil, List.head?_cons, List.map_cons, List.map_nil, List.all_cons, List.all_nil, List.cons_append, List.nil_append, List.append_nil, List.set_cons_zero, List.set_cons_succ, List.getElem?_cons_zero, List.getElem?_cons_succ, Bool.not_true, Bool.not_false, beq_true, beq_false, Bool.true_beq, Bool.false_beq, Bool.and_self, Bool.and_true, Bool.true_and, and_self, and_true, true_and, false_implies, true_implies, implies_true, bne_self_eq_false, beq_self_eq_true, Option.isSome_some, List.all, *])
      exact rfl)
    (h : AOL P ops os K st') : AOL P ops (o :: os) K st := AOL.run 1 (os' := os) (by simp only [runK, hr, Option.bind_some]) h

theorem AW.midK {P : Program} {c y : Code} {K K0 : Exit → St → Prop} {st : St} (ks : List Nat) (J : St → Prop) (h1 : AW P c (Kloop (fun s => J (s.keep ks)) K) st) (h2 : ∀ s, J s → AW P y K0 s) (hk : ∀ s, AW P y K0 s → K .normal s := by exact fun _ h => h) : AW P c K st :=
  AW.mono h1 fun e s => by
    cases e with
    | normal => exact fun h => hk _ (AW.sub (Sub.keep s ks) (h2 _ h))
    | _ => exact fun h => h
theorem AW.kq {P : Program} {c : Code} {K : Exit → St → Prop} {st : St} {n : Nat} {t0 t : List (Nat × AV)} {h0 : List (Nat × Blk)} (ks : List Nat) (he : st = ⟨n, t0, h0⟩ := by exact rfl) (ht : keepT ks t0 = t := by simp only [keepT, List.contains_cons, List.contains_nil, BEq.rfl, Bool.or_true, Bool.true_or, Bool.or_false, Bool.false_or, Nat.reduceBEq, if_true, if_false, reduceIte, Bool.false_eq_true]; exact rfl)
    (h : AW P c K ⟨n, t, h0⟩) : AW P c K st := by
  subst he; subst ht; exact AW.sub (Sub.keep _ ks) h
theorem AOL.kq {P : Program} {ops : Array Oper} {os : List Oper} {K : St → Prop} {st : St} {n : Nat} {t0 t : List (Nat × AV)} {h0 : List (Nat × Blk)} (ks : List Nat) (he : st = ⟨n, t0, h0⟩ := by exact rfl) (ht : keepT ks t0 = t := by simp only [keepT, List.contains_cons, List.contains_nil, BEq.rfl, Bool.or_true, Bool.true_or, Bool.or_false, Bool.false_or, Nat.reduceBEq, if_true, if_false, reduceIte, Bool.false_eq_true]; exact rfl)
    (h : AOL P ops os K ⟨n, t, h0⟩) : AOL P ops os K st := by
  subst he; subst ht; exact AOL.subst_ (Sub.keep _ ks) h
/-- both ways of a guard, told «as» one -/
theorem AOL.and {P : Program} {ops : Array Oper} {os os' : List Oper} {K : St → Prop} {st : St} {b x : Bool} {f : Bool → St} (g t : Nat) (hg : get? g st.t = some (.val (.bool b)) := by exact rfl)
    (hs : ∀ v, ({ st with t := ins t (.val (.bool v)) (del g st.t) } : St) = f v := by intro v_; simp only [ins, del, reduceIte, Nat.reduceLT, Nat.reduceEqDiff]; exact rfl)
    (h1 : b = true → ∀ K', AOL P ops os' K' (f x) → AOL P ops os K' st) (h0 : b = false → ∀ K', AOL P ops os' K' (f false) → AOL P ops os K' st) (h : AOL P ops os' K (f (b && x))) : AOL P ops os K st := by
  cases b
  · exact h0 rfl K h
  · exact h1 rfl K h
theorem AOL.or {P : Program} {ops : Array Oper} {os os' : List Oper} {K : St → Prop} {st : St} {b x : Bool} {f : Bool → St} (g t : Nat) (hg : get? g st.t = some (.val (.bool b)) := by exact rfl)
    (hs : ∀ v, ({ st with t := ins t (.val (.bool v)) (del g st.t) } : St) = f v := by intro v_; simp only [ins, del, reduceIte, Nat.reduceLT, Nat.reduceEqDiff]; exact rfl)
    (h1 : b = true → ∀ K', AOL P ops os' K' (f true) → AOL P ops os K' st) (h0 : b = false → ∀ K', AOL P ops os' K' (f x) → AOL P ops os K' st) (h : AOL P ops os' K (f (b || x))) : AOL P ops os K st := by
  cases b
  · exact h0 rfl K h
  · exact h1 rfl K h

/-- an operation that reads slots which later ones write -/
def lateB (pre : List Oper) (i : Nat) (ks : List Nat) : Bool := pre.all fun o => match o.dst with | some d => !(ks.contains d) || (predsL o.after.toList).contains i | none => true
theorem ADL.l1 {P : Program} {id : Nat} {ops : Array Oper} {m : Nat} {Ls : List Nat} {K : Exit → St → Prop} {st : St} {pre : List Oper} {st1 : St} {base : List (Nat × AV)} {o : Oper} {os : List Oper} {vs : List (AV × Option Blk)} {v : AV × Option Blk} (ks : List Nat)
    (hlate : lateB pre vs.length ks = true)
    (hr : dStepL P st.n ops.toList Ls ⟨st1.n, pickT (predsL o.after.toList) 0 pre vs (keepT ks st1.t ++ base), st1.h⟩ o = some v := by
      simp only [keepT, List.contains_cons, List.contains_nil, BEq.rfl, Bool.or_true, Bool.true_or, Bool.or_false, Bool.false_or, Nat.reduceBEq, dRunK, dStepL, dVw, pickT, predsL, inL, dEval, lOk, runK, stepL, memOp, pureOp, gOkL, dstAt, dOk, St.eval, St.evalO, get?, St.put, ins, del, AV.ofV, aBinAll, aBin, aBinI, aBinA, csEq, cEq, rI, isC, aUn, aConv, aStr, nums_by8, aIface, aNil, aCallB, aLen, aMinMax, intOf?, bnd,
        Go.Proofs.Ytdbpjegocmdplaa.E.ld, Go.Proofs.Ytdbpjegocmdplaa.E.part, Go.Proofs.Ytdbpjegocmdplaa.E.takeAgg_tk, Go.Proofs.Ytdbpjegocmdplaa.E.tk, aFieldAddr, aIndexAddr, aField, aIndex, aBuildSlice, cBuild, aAlloc, aStore, aApp, srcCells, aFill, mapM?, St.parts, St.new, St.drop, mapT, mapH, kill, kills, AV.cells, AV.fits, AV.one, AV.free, frees, splice, cyc, lab, Value.oneCell', Value.cells,
        Option.bind_some, Option.map_some, Option.bind_none, Option.map_none, decide_true, decide_false, if_true, if_false, reduceIte, reduceCtorEq, Bool.false_eq_true, Nat.reduceLT, Nat.reduceEqDiff, Nat.reduceAdd, Nat.reduceMul, Nat.reduceLeDiff, Nat.reduceSub, Nat.zero_add, Nat.add_zero, Nat.zero_mul, Nat.one_mul, Nat.mul_one, Int.toNat_natCast, Int.toNat_zero,
        List.drop_succ_cons, List.drop_zero, List.take_succ_cons, List.take_zero, List.length_cons, List.length_nil, List.head?_cons, List.map_cons, List.map_nil, List.all_cons, List.all_nil, List.cons_append, List.nil_append, List.append_nil, List.set_cons_zero, List.set_cons_succ, List.getElem?_cons_zero, List.getElem?_cons_succ, Bool.not_true, Bool.not_false, beq_true, beq_false, Bool.true_beq, Bool.false_beq, Bool.and_self, Bool.and_true, Bool.true_and, and_self, and_true, true_and, false_implies, true_implies, implies_true, bne_self_eq_false, beq_self_eq_true, Option.isSome_some, List.all, *]
      exact rfl)
    (h : ADL P id ops m Ls K st pre st1 base os (vs ++ [v])) : ADL P id ops m Ls K st pre st1 base (o :: os) vs := by
  intro hok hpre hst hbase hos
  have h' := h hok hpre hst hbase (by rw [List.length_append]; simp only [List.length_cons, List.length_nil, Nat.zero_add]; rw [← List.drop_drop, hos]; rfl)
  simp only [drawOk, Bool.and_eq_true, decide_eq_true_eq] at hok
  obtain ⟨he, _⟩ := hok
  have ho : pre[vs.length]? = some o := by
    have := congrArg (·[0]?) hos
    simpa using this
  subst hpre
  have hL : LateOk (st.drops Ls) (ops.toList.take m) vs.length (keepT ks (st.drops Ls).t) := by
    intro p hp
    refine ⟨mem_keepT hp, fun j o' hj hd => ?_⟩
    have hk : ks.contains p.1 = true := by
      have key : ∀ (l : List (Nat × AV)), p ∈ keepT ks l → ks.contains p.1 = true := by
        intro l
        induction l with
        | nil => intro h; cases h
        | cons q l ih =>
          obtain ⟨k, x⟩ := q
          intro h
          simp only [keepT] at h
          split at h
          · rcases List.mem_cons.1 h with rfl | h
            · assumption
            · exact ih h
          · exact ih h
      exact key _ hp
    have := List.all_eq_true.1 hlate o' (List.mem_of_getElem? hj)
    rw [hd] at this
    simp only [hk, Bool.not_true, Bool.false_or] at this
    rw [predsL_eq] at this
    simpa [dpreds] using this
  have hvw : (⟨st1.n, pickT (predsL o.after.toList) 0 (ops.toList.take m) vs (keepT ks st1.t ++ base), st1.h⟩ : St) = dViewL (st.drops Ls) (ops.toList.take m) vs (keepT ks (st.drops Ls).t) o := by
    subst hst hbase
    simp only [dViewL, pickT_eq, predsL_eq, dpreds]
  rw [hvw] at hr
  unfold dStepL at hr
  rw [gOkL_eq] at hr
  split at hr
  · rename_i hd hg
    cases hr
    exact AD.snoc he ho (by cases o.dst <;> simp [lOk]) ⟨by rw [drops_n]; exact hd, _, hL, .inl ⟨hg, rfl⟩⟩ h'
  · rename_i hd hg
    simp only [Option.bind_eq_some_iff] at hr
    obtain ⟨v', hv, hr⟩ := hr
    split at hr
    · rename_i hl
      cases hr
      exact AD.snoc he ho hl ⟨by rw [drops_n]; exact hd, _, hL, .inr ⟨hg, .inl hv⟩⟩ h'
    · cases hr
  · cases hr

/-! ### what can be compared, told so that the kernel reckons it -/
def eqFg (P : Program) (g : TypeId → Option (List Ck)) : List Field → Nat → Option (List Ck)
  | [], _ => some []
  | f :: fs, off => if f.name ≠ "_" ∧ f.offset = off then (g f.type).bind fun k => if tSz P f.type = some k.length ∧ 0 < k.length then (eqFg P g fs (off + k.length)).map (k ++ ·) else none else none
def eqS (P : Program) : Nat → TypeId → Option (List Ck)
  | 0, _ => none
  | d + 1, t => match P.underlying t with
    | some .bool => some [.bool]
    | some (.int _) => some [.int]
    | some .string => some [.string]
    | some (.struct fs) => if P.stoodInHeld t then none else eqFg P (eqS P d) fs.toList 0
    | some (.array n e) => (eqS P d e).bind fun k => if tSz P e = some k.length ∧ 0 < k.length then some (List.replicate n k).flatten else none
    | _ => none
theorem eqFg_eq {P : Program} {g : TypeId → Option (List Ck)} {d : Nat} (hg : ∀ t, g t = eqN P d t) : ∀ (fs : List Field) (off : Nat), eqFg P g fs off = eqF P d fs off
  | [], off => by simp only [eqFg, eqF]
  | f :: fs, off => by
    simp only [eqFg, eqF, hg]
    split
    · congr 1; funext k
      split
      · rw [eqFg_eq hg fs]
      · rfl
    · rfl
theorem eqS_eq {P : Program} : ∀ (d : Nat) (t : TypeId), eqS P d t = eqN P d t
  | 0, t => by simp only [eqS, eqN]
  | d + 1, t => by
    simp only [eqS, eqN]
    cases P.underlying t with
    | none => rfl
    | some x => cases x <;> first | rfl | (simp only [eqFg_eq (eqS_eq d)]; done) | (simp only [eqS_eq d]; done)
theorem eqT_of {P : Program} {t : TypeId} {ks : List Ck} (h1 : tAgg P t = some true) (h2 : P.eqGuardType P.depth t = false) (h3 : eqS P 100 t = some ks) : eqT P t = some ks := by
  unfold eqT
  rw [h1]
  simp only [h2, Bool.false_eq_true, if_false]
  rw [← eqS_eq]; exact h3

/-! ### a drawn region in every order, one after the other -/
def AAny (P : Program) (ops : Array Oper) (fuel : Nat) (listed : Array Bool) (K : St → Prop) (st : St) : Prop :=
  ∀ ρ F a w (Q : Exit → Act → World → Prop), Rel ρ F st a w → (∀ st' ρ' F' a' w', K st' → Rel ρ' F' st' a' w' → Fr ρ F w ρ' F' w' → Q .normal a' w') → wpAny P .any ops Q fuel listed a w
theorem AAny.done {P : Program} {ops : Array Oper} {listed : Array Bool} {K : St → Prop} {st : St} (hr : Region.ready .any ops listed = []) (h : K st) : AAny P ops 0 listed K st :=
  fun ρ F a w Q hR hQ => ⟨hr, hQ _ _ _ _ _ h hR (Fr.refl _ _ _)⟩
def AAll (P : Program) (ops : Array Oper) (fuel : Nat) (listed : Array Bool) : List Nat → (St → Prop) → St → Prop
  | [], _, _ => True
  | i :: r, K, st => (∃ st', stepOp P ops i st = some st' ∧ AAny P ops fuel (listed.setIfInBounds i true) K st') ∧ AAll P ops fuel listed r K st
theorem AAll.mem {P : Program} {ops : Array Oper} {fuel : Nat} {listed : Array Bool} {K : St → Prop} {st : St} : ∀ {rs : List Nat} {i : Nat}, AAll P ops fuel listed rs K st → i ∈ rs → ∃ st', stepOp P ops i st = some st' ∧ AAny P ops fuel (listed.setIfInBounds i true) K st'
  | [], i, _, h => by cases h
  | j :: r, i, h, hi => by
    simp only [AAll] at h
    rcases List.mem_cons.1 hi with rfl | hi
    · exact h.1
    · exact AAll.mem h.2 hi
theorem stepOp_any {P : Program} {ops : Array Oper} {i : Nat} {st st' : St} (h : stepOp P ops i st = some st') {ρ F a w} (hR : Rel ρ F st a w) :
    ∃ a' w' ρ', Rel ρ' F st' a' w' ∧ Fr ρ F w ρ' F w' ∧ ∀ (Q : Exit → Act → World → Prop) (N : Act → World → Prop), N a' w' → wpOp P ops Q i N a w := by
  unfold stepOp at h
  split at h
  · cases h
  · rename_i o ho
    split at h
    · rename_i hd
      have hd := dOk_lt hd
      split at h
      · cases h
      · rename_i hg
        have hw := gOk_rel hR hg
        simp only [Option.map_eq_some_iff] at h
        obtain ⟨⟨v, s1⟩, hm, rfl⟩ := h
        obtain ⟨nx, u, w', ρ', hr, hnx, hR', hv, hF⟩ := memOp_run hR hm
        have hn := memOp_n hm hR hR'
        refine ⟨a.put o.dst u, w', ρ', hR'.put (by rw [hn]; exact hd) hv, hF, ?_⟩
        intro Q N hq
        simp only [wpOp, ho, hw, if_true]
        refine .inl ?_
        simp only [Oper.wp, hr]
        rcases hnx with rfl | ⟨rfl, rfl⟩ <;> exact hq
      · rename_i hg
        have hw := gOk_rel hR hg
        cases h
        refine ⟨a.put o.dst undef, w, ρ, hR.put hd (by simp only [VR]; rfl), Fr.refl _ _ _, ?_⟩
        intro Q N hq
        simp only [wpOp, ho, hw, Bool.false_eq_true, if_false]
        exact hq
    · cases h
theorem AAny.step {P : Program} {ops : Array Oper} {fuel : Nat} {listed : Array Bool} {K : St → Prop} {st : St} (rs : List Nat) (hrs : Region.ready .any ops listed = rs) (hne : rs.isEmpty = false) (h : AAll P ops fuel listed rs K st) : AAny P ops (fuel + 1) listed K st := by
  subst hrs
  intro ρ F a w Q hR hQ
  refine ⟨fun h0 => (by rw [h0] at hne; cases hne), ?_⟩
  intro i hi
  obtain ⟨st', hs, hk⟩ := h.mem hi
  obtain ⟨a', w', ρ', hR', hF, hw⟩ := stepOp_any hs hR
  exact hw Q _ (hk ρ' F a' w' Q hR' fun st'' ρ'' F'' a'' w'' h1 h2 h3 => hQ st'' ρ'' F'' a'' w'' h1 h2 (hF.trans h3))
theorem AAll.nil {P : Program} {ops : Array Oper} {fuel : Nat} {listed : Array Bool} {K : St → Prop} {st : St} : AAll P ops fuel listed [] K st := trivial
def nthO : List Oper → Nat → Option Oper
  | [], _ => none
  | o :: _, 0 => some o
  | _ :: r, i + 1 => nthO r i
theorem nthO_eq : ∀ (l : List Oper) (i : Nat), nthO l i = l[i]?
  | [], _ => rfl
  | o :: _, 0 => rfl
  | _ :: r, i + 1 => by simp only [nthO, nthO_eq r i, List.getElem?_cons_succ]
theorem AAll.cons {P : Program} {ops : Array Oper} {fuel : Nat} {listed : Array Bool} {K : St → Prop} {st st' : St} {i : Nat} {r : List Nat} {o : Oper} (ho : nthO ops.toList i = some o)
    (hr : stepL P ops.toList o st = some st' := by
      simp only [runK, stepL, memOp, pureOp, gOkL, dstAt, dOk, St.eval, St.evalO, get?, St.put, ins, del, AV.ofV, aBinAll, aBin, aBinI, aBinA, csEq, cEq, rI, isC, aUn, aConv, aStr, nums_by8, aIface, aNil, aCallB, aLen, aMinMax, intOf?, bnd,
        Go.Proofs.Ytdbpjegocmdplaa.E.ld, Go.Proofs.Ytdbpjegocmdplaa.E.part, Go.Proofs.Ytdbpjegocmdplaa.E.takeAgg_tk, Go.Proofs.Ytdbpjegocmdplaa.E.tk, aFieldAddr, aIndexAddr, aField, aIndex, aBuildSlice, cBuild, aAlloc, aStore, aApp, srcCells, aFill, mapM?, St.parts, St.new, St.drop, mapT, mapH, kill, kills, AV.cells, AV.fits, AV.one, AV.free, frees, splice, cyc, lab, Value.oneCell', Value.cells,
        Option.bind_some, Option.map_some, Option.bind_none, Option.map_none, decide_true, decide_false, if_true, if_false, reduceIte, reduceCtorEq, Bool.false_eq_true, Nat.reduceLT, Nat.reduceEqDiff, Nat.reduceAdd, Nat.reduceMul, Nat.reduceLeDiff, Nat.reduceSub, Nat.zero_add, Nat.add_zero, Nat.zero_mul, Nat.one_mul, Nat.mul_one, Int.toNat_natCast, Int.toNat_zero,
        List.drop_succ_cons, List.drop_zero, List.take_succ_cons, List.take_zero, List.length_cons, List.length_nil, List.head?_cons, List.map_cons, List.map_nil, List.all_cons, List.all_nil, List.cons_append, List.nil_append, List.append_nil, List.set_cons_zero, List.set_cons_succ, List.getElem?_cons_zero, List.getElem?_cons_succ, Bool.not_true, Bool.not_false, beq_true, beq_false, Bool.true_beq, Bool.false_beq, Bool.and_self, Bool.and_true, Bool.true_and, and_self, and_true, true_and, false_implies, true_implies, implies_true, bne_self_eq_false, beq_self_eq_true, Option.isSome_some, List.all, *]
      exact rfl)
    (h1 : AAny P ops fuel (listed.setIfInBounds i true) K st') (h2 : AAll P ops fuel listed r K st) : AAll P ops fuel listed (i :: r) K st :=
  ⟨⟨st', by rw [stepL_eq (by rw [← Array.getElem?_toList, ← nthO_eq]; exact ho)]; exact hr, h1⟩, h2⟩
theorem AW.anyO {P : Program} {id : Nat} {ops : Array Oper} {K : Exit → St → Prop} {st st1 : St} (hmix : P.follows .mixedOrders = true) (h : AAny P ops ops.size (Array.replicate ops.size false) (fun s => s = st1) st) (hk : K .normal st1) : AW P (.region id ops true) K st := by
  intro ρ F a w Q hR hQ
  refine wp_region_any hmix ?_
  have hw1 : Rel ρ F st a { w with drawn := w.drawn + 1 } :=
    ⟨⟨fun l B hB => by
        rcases hR.heap.blk l B hB with h | ⟨r, m, c, h1, h2, h3, us, h4, h5⟩
        · exact .inl h
        · exact .inr ⟨r, m, c, h1, h2, h3, us, VRs.keep (w := w) (w' := { w with drawn := w.drawn + 1 }) (fun _ h => h) (fun _ _ _ _ h => h) (fun _ _ h => h) _ _ h4, h5⟩, hR.heap.inj, hR.heap.apart, hR.heap.lt, hR.heap.flt⟩, hR.size, hR.defers,
      fun t v hv => ⟨(hR.tmps t v hv).1, VR.keep (w := w) (w' := { w with drawn := w.drawn + 1 }) (fun _ h => h) (fun _ _ _ _ h => h) (fun _ _ h => h) _ _ (hR.tmps t v hv).2⟩⟩
  have hFd : Fr ρ F w ρ F { w with drawn := w.drawn + 1 } :=
    ⟨rfl, rfl, rfl, Nat.le_refl _, fun _ _ _ => rfl, fun _ h => h, fun _ h => .inl h, fun l r m h => .inl ⟨l, m, h⟩, fun _ _ x y h k => by rw [h] at k; exact Option.some.inj k, fun _ _ h => h⟩
  refine h ρ F a _ Q hw1 fun st' ρ' F' a' w' h1 h2 h3 => ?_
  subst h1
  exact hQ _ _ _ _ _ _ hk h2 (hFd.trans h3)

def fm {α : Type} (f : α → List AV) : List α → List AV
  | [] => []
  | a :: l => f a ++ fm f l
theorem fm_drop {α : Type} {f : α → List AV} {z : Nat} (hz : ∀ a, (f a).length = z) : ∀ {L : List α} {k : Nat} {a : α} {r : List α}, L.drop k = a :: r → (fm f L).drop (k * z) = f a ++ fm f r
  | [], k, h, r, e => by simp at e
  | g :: l, 0, h, r, e => by simp at e; obtain ⟨rfl, rfl⟩ := e; simp [fm]
  | g :: l, k + 1, h, r, e => by
    simp only [fm]
    rw [Nat.add_mul, Nat.one_mul, Nat.add_comm, ← List.drop_drop]
    have : (f g ++ fm f l).drop z = fm f l := by rw [← hz g]; simp
    rw [this]
    exact fm_drop hz (by simpa using e)
theorem fm_at {α : Type} {f : α → List AV} {z : Nat} (hz : ∀ a, (f a).length = z) {L : List α} {k : Nat} (hk : k < L.length) : (fm f L).drop (k * z) = f L[k] ++ fm f (L.drop (k + 1)) :=
  fm_drop hz (List.drop_eq_getElem_cons hk)
theorem fm_len {α : Type} {f : α → List AV} {z : Nat} (hz : ∀ a, (f a).length = z) : ∀ (L : List α), (fm f L).length = L.length * z
  | [] => by simp [fm]
  | a :: l => by simp only [fm, List.length_append, hz, fm_len hz l, List.length_cons, Nat.add_mul]; omega
theorem fm_app {α : Type} {f : α → List AV} : ∀ (F G : List α), fm f (F ++ G) = fm f F ++ fm f G
  | [], G => rfl
  | a :: F, G => by simp [fm, fm_app F G]
theorem fm_snoc {α : Type} {f : α → List AV} (F : List α) (a : α) : fm f F ++ f a = fm f (F ++ [a]) := by rw [fm_app]; simp [fm]
abbrev slF {α : Type} (f : α → List AV) (L : List α) : AV := .sl L.length (fm f L)
end Go.Proofs.Ytdbpjegocmdplaa.E

namespace Go.Proofs.Ytdbpjegocmdplaa.E
set_option linter.unusedVariables false
set_option linter.unusedSimpArgs false
/-! ## A block of which less is told; results told by labels of the contract's own choice; results frozen -/
def takeB (l k : Nat) : List (Nat × Blk) → List (Nat × Blk)
  | [] => []
  | (j, B) :: r => if j = l then (j, { B with cs := B.cs.take k }) :: takeB l k r else (j, B) :: takeB l k r
theorem mem_takeB {l k : Nat} {p : Nat × Blk} : ∀ {h : List (Nat × Blk)}, p ∈ takeB l k h → ∃ q ∈ h, p.1 = q.1 ∧ (p = q ∨ (p.1 = l ∧ p.2 = { q.2 with cs := q.2.cs.take k }))
  | [], hp => by simp [takeB] at hp
  | (j, B) :: r, hp => by
    simp only [takeB] at hp
    split at hp
    · rename_i e
      rcases List.mem_cons.1 hp with rfl | hp
      · exact ⟨(j, B), by simp, rfl, .inr ⟨e, rfl⟩⟩
      · obtain ⟨q, hq, h⟩ := mem_takeB hp; exact ⟨q, List.mem_cons_of_mem _ hq, h⟩
    · rcases List.mem_cons.1 hp with rfl | hp
      · exact ⟨(j, B), by simp, rfl, .inl rfl⟩
      · obtain ⟨q, hq, h⟩ := mem_takeB hp; exact ⟨q, List.mem_cons_of_mem _ hq, h⟩
def St.trunc (st : St) (l k : Nat) : St := { st with h := takeB l k st.h }
theorem Sub.trunc (st : St) (l k : Nat) : Sub st (st.trunc l k) := fun ρ F a w hR => by
  refine ⟨ρ, F, ⟨⟨?_, hR.heap.inj, hR.heap.apart, hR.heap.lt, hR.heap.flt⟩, hR.size, hR.defers, hR.tmps⟩, Fr.refl _ _ _⟩
  intro j B hB
  obtain ⟨⟨j', C⟩, hq, e, hc⟩ := mem_takeB hB
  simp only at e
  subst e
  rcases hc with hc | ⟨_, hc⟩
  · obtain rfl : B = C := congrArg Prod.snd hc
    exact hR.heap.blk _ _ hq
  · simp only at hc
    subst hc
    rcases hR.heap.blk _ _ hq with ⟨h0, h1⟩ | ⟨r, m, c, h1, h2, h3, vs, h4, h5, h6⟩
    · exact .inl ⟨by simp [h0], h1⟩
    · refine .inr ⟨r, m, c, h1, h2, h3, vs.take k, h4.take k, by rw [List.length_take]; omega, ?_⟩
      intro i v hi
      refine h6 i v ?_
      rw [List.getElem?_take] at hi
      split at hi
      · exact hi
      · cases hi
theorem AW.tr {P c K st st'} (l k : Nat) (hs : st.trunc l k = st' := by simp only [St.trunc, takeB, reduceIte, Nat.reduceEqDiff]; exact rfl) (h : AW P c K st') : AW P c K st := by
  subst hs; exact AW.sub (Sub.trunc st l k) h
theorem AOL.tr {P ops os K st st'} (l k : Nat) (hs : st.trunc l k = st' := by simp only [St.trunc, takeB, reduceIte, Nat.reduceEqDiff]; exact rfl) (h : AOL P ops os K st') : AOL P ops os K st := by
  subst hs; exact AOL.subst_ (Sub.trunc st l k) h

/-! ### renaming -/
mutual
theorem ren_comp (s t : Nat → Nat) : ∀ c : AV, ren t (ren s c) = ren (fun l => t (s l)) c
  | .ptr _ _ => rfl
  | .ref _ _ _ _ => rfl
  | .agg cs => by simp only [ren, rens_comp s t cs]
  | .tup cs => by simp only [ren, rens_comp s t cs]
  | .clo f cs => by simp only [ren, rens_comp s t cs]
  | .ifc ty c => by simp only [ren, ren_comp s t c]
  | .val _ => rfl
  | .sl _ _ => rfl
  | .fptr _ => rfl
  | .emp => rfl
  | .dead => rfl
theorem rens_comp (s t : Nat → Nat) : ∀ cs : List AV, rens t (rens s cs) = rens (fun l => t (s l)) cs
  | [] => rfl
  | c :: cs => by simp only [rens, ren_comp s t c, rens_comp s t cs]
end
mutual
theorem ren_congr {s t : Nat → Nat} : ∀ c : AV, (∀ l ∈ labs c, s l = t l) → ren s c = ren t c
  | .ptr k _, h => by simp only [ren]; rw [h k (by simp [labs])]
  | .ref k _ _ _, h => by simp only [ren]; rw [h k (by simp [labs])]
  | .agg cs, h => by simp only [ren]; rw [rens_congr cs (by simpa only [labs] using h)]
  | .tup cs, h => by simp only [ren]; rw [rens_congr cs (by simpa only [labs] using h)]
  | .clo f cs, h => by simp only [ren]; rw [rens_congr cs (by simpa only [labs] using h)]
  | .ifc ty c, h => by simp only [ren]; rw [ren_congr c (by simpa only [labs] using h)]
  | .val _, _ => rfl
  | .sl _ _, _ => rfl
  | .fptr _, _ => rfl
  | .emp, _ => rfl
  | .dead, _ => rfl
theorem rens_congr {s t : Nat → Nat} : ∀ cs : List AV, (∀ l ∈ labss cs, s l = t l) → rens s cs = rens t cs
  | [], _ => rfl
  | c :: cs, h => by
    simp only [rens]
    rw [ren_congr c fun l hl => h l (by simp [labss, hl]), rens_congr cs fun l hl => h l (by simp [labss, hl])]
end
mutual
theorem ren_self : ∀ c : AV, ren (fun l => l) c = c
  | .ptr _ _ => rfl
  | .ref _ _ _ _ => rfl
  | .agg cs => by simp only [ren, rens_self cs]
  | .tup cs => by simp only [ren, rens_self cs]
  | .clo f cs => by simp only [ren, rens_self cs]
  | .ifc ty c => by simp only [ren, ren_self c]
  | .val _ => rfl
  | .sl _ _ => rfl
  | .fptr _ => rfl
  | .emp => rfl
  | .dead => rfl
theorem rens_self : ∀ cs : List AV, rens (fun l => l) cs = cs
  | [] => rfl
  | c :: cs => by simp only [rens, ren_self c, rens_self cs]
end
mutual
theorem labs_free : ∀ c : AV, c.free = true → labs c = []
  | .ptr _ _, h => by cases h
  | .ref _ _ _ _, h => by cases h
  | .agg cs, h => by simp only [labs]; exact labss_free cs (by simpa only [AV.free] using h)
  | .tup cs, h => by simp only [labs]; exact labss_free cs (by simpa only [AV.free] using h)
  | .clo f cs, h => by simp only [labs]; exact labss_free cs (by simpa only [AV.free] using h)
  | .ifc ty c, h => by simp only [labs]; exact labs_free c (by simpa only [AV.free] using h)
  | .val _, _ => rfl
  | .sl _ _, _ => rfl
  | .fptr _, _ => rfl
  | .emp, _ => rfl
  | .dead, _ => rfl
theorem labss_free : ∀ cs : List AV, frees cs = true → labss cs = []
  | [], _ => rfl
  | c :: cs, h => by
    simp only [frees, Bool.and_eq_true] at h
    simp only [labss, labs_free c h.1, labss_free cs h.2, List.append_nil]
end
theorem rens_free (s : Nat → Nat) {cs : List AV} (h : frees cs = true) : rens s cs = cs := by
  rw [rens_congr cs (t := fun l => l) (by rw [labss_free cs h]; simp), rens_self]
theorem frees_app : ∀ a b : List AV, frees (a ++ b) = (frees a && frees b)
  | [], b => by simp [frees]
  | c :: a, b => by simp only [List.cons_append, frees, frees_app a b, Bool.and_assoc]
theorem frees_fm {α : Type} {f : α → List AV} (hf : ∀ a, frees (f a) = true) : ∀ L : List α, frees (fm f L) = true
  | [] => rfl
  | a :: l => by simp only [fm, frees_app, hf, frees_fm hf l, Bool.and_true]
theorem rens_fm {α : Type} {f : α → List AV} (hf : ∀ a, frees (f a) = true) (s : Nat → Nat) (L : List α) : rens s (fm f L) = fm f L := rens_free s (frees_fm hf L)

/-! ### a result by labels of the contract's own choice -/
def mapS (s : Nat → Nat) (h : List (Nat × Blk)) : List (Nat × Blk) := h.map fun p => (s p.1, renB s p.2)
def hlabs (h : List (Nat × Blk)) : List Nat := h.map (·.1)
def Tells (r0 : AV) (h0 : List (Nat × Blk)) : AV → List (Nat × Blk) → Prop := fun r h =>
  ∃ s : Nat → Nat, (∀ l, l < 1000 → s l = l) ∧ (∀ l ∈ hlabs h0, 1000 ≤ l → 1000 ≤ s l) ∧ (∀ l ∈ hlabs h0, ∀ k ∈ hlabs h0, s l = s k → l = k) ∧ r = ren s r0 ∧ h = mapS s h0
theorem Tells.self {r0 h0} : Tells r0 h0 r0 h0 := by
  refine ⟨fun l => l, fun _ _ => rfl, fun _ _ h => h, fun _ _ _ _ h => h, (ren_self r0).symm, ?_⟩
  unfold mapS
  have : ∀ B : Blk, renB (fun l => l) B = B := by intro B; simp [renB, rens_self]
  simp [this]
theorem pos_mapS {s : Nat → Nat} {l : Nat} : ∀ {h : List (Nat × Blk)}, (∀ k ∈ hlabs h, s l = s k → l = k) → pos (s l) (mapS s h) = pos l h
  | [], _ => rfl
  | (k, B) :: r, h => by
    simp only [mapS, List.map_cons, pos]
    have ih := pos_mapS (s := s) (l := l) (h := r) (fun k hk => h k (by simp [hlabs] at hk ⊢; exact .inr hk))
    by_cases e : k = l
    · rw [if_pos e, if_pos (by rw [e])]
    · rw [if_neg e, if_neg (fun e' => e (h k (by simp [hlabs]) e'.symm).symm)]
      simp only [mapS] at ih
      rw [ih]
theorem get?_mapS {s : Nat → Nat} {l : Nat} (h1 : ∀ l, l < 1000 → s l = l) (hl : l < 1000) : ∀ {h : List (Nat × Blk)}, (∀ k ∈ hlabs h, 1000 ≤ k → 1000 ≤ s k) → get? l (mapS s h) = (get? l h).map (renB s)
  | [], _ => rfl
  | (k, B) :: r, h => by
    simp only [mapS, List.map_cons, get?]
    have ih := get?_mapS h1 hl (h := r) (fun k hk => h k (by simp [hlabs] at hk ⊢; exact .inr hk))
    by_cases e : k = l
    · subst e; rw [h1 k hl]; simp
    · have : s k ≠ l := by
        intro e'
        rcases Nat.lt_or_ge k 1000 with hk | hk
        · exact e (by rw [h1 k hk] at e'; exact e')
        · have := h k (by simp [hlabs]) hk; omega
      rw [if_neg e, if_neg this]
      exact ih
theorem consumed_mapS {s : Nat → Nat} (h1 : ∀ l, l < 1000 → s l = l) {h : List (Nat × Blk)} (h2 : ∀ k ∈ hlabs h, 1000 ≤ k → 1000 ≤ s k) : ∀ (em : List Nat) (i : Nat), i + em.length ≤ 1000 → consumed (mapS s h) i em = consumed h i em
  | [], i, _ => rfl
  | L :: r, i, hi => by
    simp only [List.length_cons] at hi
    simp only [consumed, get?_mapS h1 (show i < 1000 by omega) h2, consumed_mapS h1 h2 r (i + 1) (by omega)]
    cases get? i h <;> rfl
theorem sig_mapS {s : Nat → Nat} {em : List Nat} {base : Nat} {h : List (Nat × Blk)} (h1 : ∀ l, l < 1000 → s l = l) (h2 : ∀ k ∈ hlabs h, 1000 ≤ k → 1000 ≤ s k) (h3 : ∀ l ∈ hlabs h, ∀ k ∈ hlabs h, s l = s k → l = k) {l : Nat} (hl : l < 1000 ∨ l ∈ hlabs h) : sig em base (mapS s h) (s l) = sig em base h l := by
  unfold sig
  by_cases c : l < 1000
  · rw [h1 l c, if_pos c, if_pos c]
  · have hm := hl.resolve_left c
    rw [if_neg (by have := h2 l hm (by omega); omega), if_neg c, pos_mapS (fun k hk => h3 l hm k hk)]
theorem newNames_mapS {s : Nat → Nat} {em : List Nat} {base : Nat} {h : List (Nat × Blk)} (h1 : ∀ l, l < 1000 → s l = l) (h2 : ∀ k ∈ hlabs h, 1000 ≤ k → 1000 ≤ s k) (h3 : ∀ l ∈ hlabs h, ∀ k ∈ hlabs h, s l = s k → l = k) : ∀ r : List (Nat × Blk), (∀ p ∈ r, p ∈ h) → newNames em base (mapS s h) (mapS s r) = newNames em base h r
  | [], _ => rfl
  | (l, B) :: r, hr => by
    have hm : l ∈ hlabs h := List.mem_map.2 ⟨_, hr (l, B) (by simp), rfl⟩
    have ih := newNames_mapS (em := em) (base := base) h1 h2 h3 r fun p hp => hr p (List.mem_cons_of_mem _ hp)
    have e : mapS s ((l, B) :: r) = (s l, renB s B) :: mapS s r := rfl
    rw [e]
    simp only [newNames]
    rw [ih, sig_mapS h1 h2 h3 (.inr hm)]
    by_cases c : l < 1000
    · rw [h1 l c]
    · rw [if_neg c, if_neg (by have := h2 l hm (by omega); omega)]
theorem putH_mapS {s : Nat → Nat} {em : List Nat} {base : Nat} {h : List (Nat × Blk)} (h1 : ∀ l, l < 1000 → s l = l) (h2 : ∀ k ∈ hlabs h, 1000 ≤ k → 1000 ≤ s k) (h3 : ∀ l ∈ hlabs h, ∀ k ∈ hlabs h, s l = s k → l = k)
    : ∀ (r : List (Nat × Blk)), (∀ p ∈ r, p ∈ h ∧ ∀ l ∈ labss p.2.cs, l < 1000 ∨ l ∈ hlabs h) → ∀ acc, putH (sig em base (mapS s h)) (mapS s r) acc = putH (sig em base h) r acc
  | [], _, acc => rfl
  | (l, B) :: r, hr, acc => by
    obtain ⟨hp, hc⟩ := hr (l, B) (by simp)
    have hm : l ∈ hlabs h := List.mem_map.2 ⟨_, hp, rfl⟩
    have e : mapS s ((l, B) :: r) = (s l, renB s B) :: mapS s r := rfl
    rw [e]
    simp only [putH]
    rw [putH_mapS h1 h2 h3 r (fun p hp => hr p (List.mem_cons_of_mem _ hp)), sig_mapS h1 h2 h3 (.inr hm)]
    congr 2
    simp only [renB, rens_comp]
    congr 1
    exact rens_congr _ fun k hk => sig_mapS h1 h2 h3 (hc k hk)

mutual
theorem labs_ren (s : Nat → Nat) : ∀ c : AV, labs (ren s c) = (labs c).map s
  | .ptr _ _ => rfl
  | .ref _ _ _ _ => rfl
  | .agg cs => by simp only [ren, labs, labss_rens s cs]
  | .tup cs => by simp only [ren, labs, labss_rens s cs]
  | .clo f cs => by simp only [ren, labs, labss_rens s cs]
  | .ifc ty c => by simp only [ren, labs, labs_ren s c]
  | .val _ => rfl
  | .sl _ _ => rfl
  | .fptr _ => rfl
  | .emp => rfl
  | .dead => rfl
theorem labss_rens (s : Nat → Nat) : ∀ cs : List AV, labss (rens s cs) = (labss cs).map s
  | [] => rfl
  | c :: cs => by simp only [rens, labss, labs_ren s c, labss_rens s cs, List.map_append]
end
/-- what the told result must be: by its own labels -/
structure TOk (em : List Nat) (base : Nat) (r0 : AV) (h0 : List (Nat × Blk)) : Prop where
  key : ∀ p ∈ h0, p.1 < em.length ∨ 1000 ≤ p.1
  full : ∀ p ∈ h0, p.1 < 1000 → p.2.cs ≠ []
  labr : ∀ l ∈ labs r0, l ∈ hlabs h0
  labh : ∀ p ∈ h0, ∀ l ∈ labss p.2.cs, l ∈ hlabs h0
  inj : ∀ l ∈ hlabs h0, ∀ k ∈ hlabs h0, sig em base h0 l = sig em base h0 k → l = k
theorem TOk.res {em : List Nat} {base : Nat} {r0 : AV} {h0 : List (Nat × Blk)} (ok : TOk em base r0 h0) {s : Nat → Nat} (he : em.length ≤ 1000) (h1 : ∀ l, l < 1000 → s l = l) (h2 : ∀ l ∈ hlabs h0, 1000 ≤ l → 1000 ≤ s l) (h3 : ∀ l ∈ hlabs h0, ∀ k ∈ hlabs h0, s l = s k → l = k) :
    ResOk em base (ren s r0) (mapS s h0) := by
  refine ⟨?_, ?_, ?_, ?_, ?_⟩
  · intro p hp
    obtain ⟨q, hq, rfl⟩ := List.mem_map.1 hp
    rcases Nat.lt_or_ge q.1 1000 with c | c
    · rw [show (s q.1, renB s q.2).1 = s q.1 from rfl, h1 _ c]
      rcases ok.key q hq with k | k
      · exact .inl k
      · omega
    · exact .inr (h2 _ (List.mem_map.2 ⟨q, hq, rfl⟩) c)
  · intro p hp hlt
    obtain ⟨q, hq, rfl⟩ := List.mem_map.1 hp
    have hlt : s q.1 < 1000 := hlt
    have c : q.1 < 1000 := by
      rcases Nat.lt_or_ge q.1 1000 with c | c
      · exact c
      · have := h2 _ (List.mem_map.2 ⟨q, hq, rfl⟩) c; omega
    have := ok.full q hq c
    show (renB s q.2).cs ≠ []
    simp only [renB]
    intro e
    cases hc : q.2.cs with
    | nil => exact this hc
    | cons a b => rw [hc] at e; simp [rens] at e
  · intro l hl
    rw [labs_ren] at hl
    obtain ⟨k, hk, rfl⟩ := List.mem_map.1 hl
    obtain ⟨q, hq, rfl⟩ := List.mem_map.1 (ok.labr k hk)
    exact ⟨_, List.mem_map.2 ⟨q, hq, rfl⟩, rfl⟩
  · intro p hp hb l hl
    obtain ⟨q, hq, rfl⟩ := List.mem_map.1 hp
    have hl : l ∈ labss (rens s q.2.cs) := hl
    rw [labss_rens] at hl
    obtain ⟨k, hk, rfl⟩ := List.mem_map.1 hl
    obtain ⟨q', hq', rfl⟩ := List.mem_map.1 (ok.labh q hq k hk)
    exact ⟨_, List.mem_map.2 ⟨q', hq', rfl⟩, rfl⟩
  · intro p hp q hq e
    obtain ⟨p', hp', rfl⟩ := List.mem_map.1 hp
    obtain ⟨q', hq', rfl⟩ := List.mem_map.1 hq
    have mp : p'.1 ∈ hlabs h0 := List.mem_map.2 ⟨p', hp', rfl⟩
    have mq : q'.1 ∈ hlabs h0 := List.mem_map.2 ⟨q', hq', rfl⟩
    have e : sig em base (mapS s h0) (s p'.1) = sig em base (mapS s h0) (s q'.1) := e
    rw [sig_mapS h1 h2 h3 (.inr mp), sig_mapS h1 h2 h3 (.inr mq)] at e
    show s p'.1 = s q'.1
    rw [ok.inj _ mp _ mq e]
/-- A call whose result is told by labels of the contract's own choice. -/
theorem AOL.callT {P : Program} {ops : Array Oper} {o : Oper} {os : List Oper} {K : St → Prop} {st st' : St} {g : FuncId} {«as» las : List AV} {hin : List (Nat × Blk)} {r0 : AV} {h0 : List (Nat × Blk)} (em : List Nat) (base : Nat)
    (hF : Fn P g las hin (Tells r0 h0))
    (hc : callL st ops.toList o = some (g, «as»)) (has : rens (nth em) las = «as»)
    (hcl : callable P g = true)
    (hlas : ∀ l ∈ labss las, l < em.length)
    (hhin : ∀ p ∈ hin, p.1 < em.length ∧ (∀ l ∈ labss p.2.cs, l < em.length) ∧ get? (nth em p.1) st.h = some (renB (nth em) p.2))
    (hok : TOk em base r0 h0)
    (hst : (st.after em base h0).put o.dst (ren (sig em base h0) r0) = st')
    (h : AOL P ops os K st') 
    (hem : em.Nodup := by decide) (he1 : em.length ≤ 1000 := by decide) (hb : 1000 ≤ base := by decide) : AOL P ops (o :: os) K st := by
  subst hst
  refine AOL.callR em base hem he1 hb hc has hlas hhin hcl hF ?_
  rintro r hh ⟨s, h1, h2, h3, rfl, rfl⟩
  refine ⟨hok.res he1 h1 h2 h3, ?_⟩
  have e1 : st.after em base (mapS s h0) = st.after em base h0 := by
    simp only [St.after]
    rw [consumed_mapS h1 h2 em 0 (by omega), newNames_mapS h1 h2 h3 h0 (fun _ h => h), putH_mapS h1 h2 h3 h0 (fun p hp => ⟨hp, fun l hl => .inr (hok.labh p hp l hl)⟩)]
  have e2 : ren (sig em base (mapS s h0)) (ren s r0) = ren (sig em base h0) r0 := by
    rw [ren_comp]
    exact ren_congr _ fun l hl => sig_mapS h1 h2 h3 (.inr (hok.labr l hl))
  rw [e1, e2]
  exact h

theorem ren_none {s : Nat → Nat} {c : AV} (h : labs c = []) : ren s c = c := by rw [ren_congr c (t := fun l => l) (by rw [h]; simp), ren_self]
theorem rens_none {s : Nat → Nat} {cs : List AV} (h : labss cs = []) : rens s cs = cs := by rw [rens_congr cs (t := fun l => l) (by rw [h]; simp), rens_self]
/-- A call without blocks of one's own, that tells a block of the caller's own. -/
theorem AOL.callO {P : Program} {ops : Array Oper} {o : Oper} {os : List Oper} {K : St → Prop} {st st' : St} {g : FuncId} {«as» : List AV} {r0 : AV} {B : Blk} (L : Nat)
    (hF : Fn P g «as» [] (Tells r0 [(1000, B)]))
    (hc : callL st ops.toList o = some (g, «as»)) (hcl : callable P g = true) (has : labss «as» = []) (hB : frees B.cs = true) (hr : ∀ l ∈ labs r0, l = 1000)
    (hL : 1000 ≤ L)
    (hst : ({ (st.drop L) with h := ins L B (st.drop L).h } : St).put o.dst (ren (fun _ => L) r0) = st')
    (h : AOL P ops os K st') : AOL P ops (o :: os) K st := by
  have hs : sig [] L [(1000, B)] 1000 = L := by
    unfold sig
    rw [if_neg (by omega)]
    show L + (if 1000 = 1000 then 0 else _) = L
    rw [if_pos rfl]; rfl
  refine AOL.callT [] L hF hc (rens_none has) hcl (by rw [has]; simp) (by simp) ?_ ?_ h (by simp) (by simp) hL
  · refine ⟨?_, ?_, ?_, ?_, ?_⟩
    · intro p hp; simp only [List.mem_singleton] at hp; subst hp; exact .inr (Nat.le_refl _)
    · intro p hp hl; simp only [List.mem_singleton] at hp; subst hp; exact absurd hl (Nat.lt_irrefl _)
    · intro l hl; rw [hr l hl]; exact List.mem_singleton_self _
    · intro p hp l hl; simp only [List.mem_singleton] at hp; subst hp
      rw [labss_free _ hB] at hl; cases hl
    · intro l hl k hk _; simp only [hlabs, List.map_cons, List.map_nil, List.mem_singleton] at hl hk; rw [hl, hk]
  · rw [← hst]
    have e1 : newNames [] L [(1000, B)] [(1000, B)] = [L] := by
      show (if 1000 < 1000 then _ else sig [] L [(1000, B)] 1000 :: []) = _
      rw [if_neg (by omega), hs]
    have e2 : st.after [] L [(1000, B)] = { (st.drop L) with h := ins L B (st.drop L).h } := by
      show ({ (st.drops ([] ++ newNames [] L [(1000, B)] [(1000, B)])) with h := putH (sig [] L [(1000, B)]) [(1000, B)] (st.drops ([] ++ newNames [] L [(1000, B)] [(1000, B)])).h } : St) = _
      rw [e1]
      show ({ (st.drop L) with h := ins (sig [] L [(1000, B)] 1000) (renB (sig [] L [(1000, B)]) B) (st.drop L).h } : St) = _
      rw [hs]
      have : renB (sig [] L [(1000, B)]) B = B := by unfold renB; rw [rens_free _ hB]
      rw [this]
    rw [e2]
    congr 1
    exact ren_congr _ fun l hl => by rw [hr l hl]; exact hs
/-- A call that is handed one block of the caller's own, and writes it. -/
theorem AOL.call1 {P : Program} {ops : Array Oper} {o : Oper} {os : List Oper} {K : St → Prop} {st st' : St} {g : FuncId} {«as» las : List AV} {r0 : AV} {B B' : Blk} (L : Nat)
    (hF : Fn P g las [(0, B)] (Tells r0 [(0, B')]))
    (hc : callL st ops.toList o = some (g, «as»)) (hcl : callable P g = true) (has : rens (fun _ => L) las = «as») (hlas : ∀ l ∈ labss las, l = 0) (hB : frees B.cs = true) (hB' : frees B'.cs = true) (hr : ∀ l ∈ labs r0, l = 0) (h0 : B'.cs ≠ [])
    (hg : get? L st.h = some B)
    (hst : ({ st with h := ins L B' st.h } : St).put o.dst (ren (fun _ => L) r0) = st')
    (h : AOL P ops os K st') : AOL P ops (o :: os) K st := by
  refine AOL.callT (las := las) [L] 5000 hF hc ?_ hcl ?_ ?_ ?_ ?_ h (by simp) (by simp) (by decide)
  · rw [← has]; exact rens_congr _ fun l hl => by rw [hlas l hl]; rfl
  · intro l hl; rw [hlas l hl]; exact Nat.zero_lt_one
  · intro p hp
    simp only [List.mem_singleton] at hp; subst hp
    refine ⟨Nat.zero_lt_one, (by intro l hl; rw [labss_free _ hB] at hl; cases hl), ?_⟩
    show get? L st.h = some (renB (nth [L]) B)
    rw [hg]; unfold renB; rw [rens_free _ hB]
  · refine ⟨?_, ?_, ?_, ?_, ?_⟩
    · intro p hp; simp only [List.mem_singleton] at hp; subst hp; exact .inl Nat.zero_lt_one
    · intro p hp _; simp only [List.mem_singleton] at hp; subst hp; exact h0
    · intro l hl; rw [hr l hl]; exact List.mem_singleton_self _
    · intro p hp l hl; simp only [List.mem_singleton] at hp; subst hp
      rw [labss_free _ hB'] at hl; cases hl
    · intro l hl k hk _; simp only [hlabs, List.map_cons, List.map_nil, List.mem_singleton] at hl hk; rw [hl, hk]
  · rw [← hst]
    have e2 : st.after [L] 5000 [(0, B')] = { st with h := ins L B' st.h } := by
      show ({ st with h := ins L (renB (sig [L] 5000 [(0, B')]) B') st.h } : St) = _
      have : renB (sig [L] 5000 [(0, B')]) B' = B' := by unfold renB; rw [rens_free _ hB']
      rw [this]
    rw [e2]
    congr 1
    exact ren_congr _ fun l hl => by rw [hr l hl]; rfl

theorem Tells.one {r0 : AV} {B : Blk} (L : Nat) (hL : 1000 ≤ L) (hB : frees B.cs = true) : Tells r0 [(1000, B)] (ren (fun l => if l = 1000 then L else l) r0) [(L, B)] := by
  refine ⟨_, ?_, ?_, ?_, rfl, ?_⟩
  · intro l hl; rw [if_neg (by omega)]
  · intro l hl _; simp only [hlabs, List.map_cons, List.map_nil, List.mem_singleton] at hl; rw [if_pos hl]; exact hL
  · intro l hl k hk _; simp only [hlabs, List.map_cons, List.map_nil, List.mem_singleton] at hl hk; rw [hl, hk]
  · simp only [mapS, List.map_cons, List.map_nil, renB, rens_free _ hB, if_true]
theorem Tells.three {r0 : AV} {A B C : Blk} (La Lb Lc : Nat) (ha : 1000 ≤ La) (hb : 1000 ≤ Lb) (hc : 1000 ≤ Lc) (h1 : La ≠ Lb) (h2 : La ≠ Lc) (h3 : Lb ≠ Lc) (hA : frees A.cs = true) (hB : frees B.cs = true) (hC : frees C.cs = true) :
    Tells r0 [(1000, A), (1001, B), (1002, C)] (ren (fun l => if l = 1000 then La else if l = 1001 then Lb else if l = 1002 then Lc else l) r0) [(La, A), (Lb, B), (Lc, C)] := by
  have key : ∀ l, l ∈ hlabs [(1000, A), (1001, B), (1002, C)] → l = 1000 ∨ l = 1001 ∨ l = 1002 := by
    intro l hl; simpa [hlabs] using hl
  refine ⟨_, ?_, ?_, ?_, rfl, ?_⟩
  · intro l hl; rw [if_neg (by omega), if_neg (by omega), if_neg (by omega)]
  · intro l hl _; rcases key l hl with rfl | rfl | rfl <;> simp <;> omega
  · intro l hl k hk; rcases key l hl with rfl | rfl | rfl <;> rcases key k hk with rfl | rfl | rfl <;> simp <;> omega
  · simp [mapS, renB, rens_free _ hA, rens_free _ hB, rens_free _ hC]
theorem Tells.none {r0 : AV} (h : labs r0 = []) : Tells r0 [] r0 [] := by
  refine ⟨fun l => l, fun _ _ => rfl, by simp [hlabs], by simp [hlabs], ?_, rfl⟩
  rw [ren_none h]
theorem Tells.old {r0 : AV} {B : Blk} : Tells r0 [(0, B)] r0 [(0, B)] := Tells.self

/-! ### a fresh block of a result, frozen -/
theorem Fn.fz {P : Program} {f : FuncId} {«as» : List AV} {hin : List (Nat × Blk)} {R R' : AV → List (Nat × Blk) → Prop} (h : Fn P f «as» hin R)
    (hR : ∀ r h, R r h → ∃ l B, get? l h = some B ∧ (B.boxy = true → frees B.cs = true) ∧ R' (frz l B.cs r) (mapF l B.cs (del l h))) : Fn P f «as» hin R' := by
  intro ρ F w vs h1 h2
  refine (h ρ F w vs h1 h2).mono ?_
  rintro e w' ⟨v, ρ', F', r, hh, rfl, hRr, hvr, hhr, hfr⟩
  obtain ⟨l, B, hB, hbx, hR'⟩ := hR r hh hRr
  have hrel : Rel ρ' F' ⟨1, [(0, r)], hh⟩ { tmps := #[v], defers := [] } w' := by
    refine ⟨hhr, rfl, rfl, ?_⟩
    intro t x hx
    simp only [List.mem_singleton, Prod.mk.injEq] at hx
    obtain ⟨rfl, rfl⟩ := hx
    exact ⟨Nat.zero_lt_one, hvr⟩
  obtain ⟨ρ2, F2, hrel2, hfr2⟩ := Sub.freeze (st := ⟨1, [(0, r)], hh⟩) hB hbx ρ' F' _ _ hrel
  refine ⟨v, ρ2, F2, frz l B.cs r, mapF l B.cs (del l hh), rfl, hR', ?_, hrel2.heap, hfr.trans hfr2⟩
  exact (hrel2.tmps 0 (frz l B.cs r) (by simp [St.freeze, mapT])).2
/-- a result with one block of its own, frozen -/
theorem Fn.frozen {P : Program} {f : FuncId} {«as» : List AV} {hin : List (Nat × Blk)} {r0 : AV} {B : Blk} (h : Fn P f «as» hin (Tells r0 [(1000, B)])) (hb : frees B.cs = true) (hr : ∀ s : Nat → Nat, frz (s 1000) B.cs (ren s r0) = frz 1000 B.cs r0 := by intro s; simp only [ren, rens, frz, frzs, if_true]) :
    Fn P f «as» hin (fun r _ => r = frz 1000 B.cs r0) := by
  refine Fn.fz h ?_
  rintro r hh ⟨s, _, _, _, rfl, rfl⟩
  refine ⟨s 1000, renB s B, by simp [mapS, get?], fun _ => by simp only [renB, rens_free s hb, hb], ?_⟩
  simp only [renB, rens_free s hb]
  exact hr s
end Go.Proofs.Ytdbpjegocmdplaa.E
end
section
/- modular: sums, differences, and whether a number is a modulus, over E. -/
set_option linter.unusedVariables false
set_option linter.unusedSimpArgs false
set_option maxRecDepth 10000
open Go Go.Proofs.Ytdbpjegocmdplaa.E Go.Proofs
namespace Go.Proofs.Ytdbpjegocmdplaa.E.M
abbrev u (n : Int) : AV := .val (.int .u64 n)
abbrev i (n : Int) : AV := .val (.int .i64 n)
abbrev bo (n : Bool) : AV := .val (.bool n)
theorem hmix : Try.prog.follows .mixedOrders = true := by kernel_rfl
abbrev w64 (a : Int) : Prop := 0 ≤ a ∧ a < 18446744073709551616
abbrev md (m : Int) : Prop := 2 ≤ m ∧ m ≤ 4611686018427387904
theorem w64_mod {m : Int} (hm : md m) (a : Int) : w64 (a % m) := by
  have h1 := Int.emod_nonneg a (show m ≠ 0 by omega)
  have h2 := Int.emod_lt_of_pos a (show 0 < m by omega)
  omega
theorem lt_mod {m : Int} (hm : md m) (a : Int) : 0 ≤ a % m ∧ a % m < m := ⟨Int.emod_nonneg a (by omega), Int.emod_lt_of_pos a (by omega)⟩
theorem tmod_nn {a m : Int} (h : 0 ≤ a) : Int.tmod a m = a % m := Int.tmod_eq_emod_of_nonneg h
theorem modular_no_c {m : Int} (hm : md m) : Fn Try.prog 55 [u m] [] (fun r _ => r = bo false) := by
  have h1 : ¬ m < 2 := by omega
  have h2 : ¬ m > 4611686018427387904 := by omega
  refine Fn.enter Try.func55 Try.ntmps55 rfl (h := ?_)
  repeat refine AW.seq ?_
  refine AW.reg ?_
  iterate 1 refine AOL.s1 (h := ?_)
  refine AOL.nil ?_
  refine AW.kq [0] (h := ?_)
  repeat refine AW.seq ?_
  refine AW.reg ?_
  iterate 7 refine AOL.s1 (h := ?_)
  refine AOL.nil ?_
  refine AW.kq [2] (h := ?_)
  repeat refine AW.seq ?_
  refine AW.ret ?_
  refine ⟨_, [], rfl, HOk.nil _, ?_⟩
  simp only [one?, decide_eq_false h2]
theorem modular_Add_c {m a b : Int} (hm : md m) (ha : w64 a) (hb : w64 b) : Fn Try.prog 57 [u m, u a, u b] [] (fun r _ => r = u ((a + b) % m)) := by
  have h0 : ¬ m = 0 := by omega
  refine Fn.enter Try.func57 Try.ntmps57 rfl (h := ?_)
  repeat refine AW.seq ?_
  refine AW.reg ?_
  iterate 1 refine AOL.s1 (h := ?_)
  refine AOL.nil ?_
  refine AW.kq [0, 1, 2] (h := ?_)
  repeat refine AW.seq ?_
  refine AW.reg ?_
  iterate 1 refine AOL.s1 (h := ?_)
  refine AOL.callD rfl (modular_no_c hm) (by kernel_rfl) rfl rfl (h := ?_)
  refine AOL.nil ?_
  refine AW.kq [0, 1, 2, 8] (h := ?_)
  repeat refine AW.seq ?_
  refine AW.cond rfl (fun c_ => ?_) (fun c_ => ?_)
  · cases c_
  refine AW.skip ?_
  repeat refine AW.seq ?_
  refine AW.drw 9 [] (by kernel_rfl) (h := ?_)
  refine ADL.dm 9 (h := ?_)
  refine ADL.done hmix rfl rfl (hT := ?_)
  iterate 1 refine AOL.s1 (h := ?_)
  refine AOL.nil ?_
  refine AW.kq [6] (h := ?_)
  repeat refine AW.seq ?_
  refine AW.ret ?_
  refine ⟨_, [], rfl, HOk.nil _, ?_⟩
  have h3 := lt_mod hm a
  have h4 := lt_mod hm b
  simp only [one?]
  rw [tmod_nn ha.1, tmod_nn hb.1, wrapU_o (by omega) (by omega), tmod_nn (by omega), ← Int.add_emod]
theorem modular_Sub_c {m a b : Int} (hm : md m) (ha : w64 a) (hb : w64 b) : Fn Try.prog 52 [u m, u a, u b] [] (fun r _ => r = u ((a - b) % m)) := by
  have h0 : ¬ m = 0 := by omega
  refine Fn.enter Try.func52 Try.ntmps52 rfl (h := ?_)
  repeat refine AW.seq ?_
  refine AW.reg ?_
  iterate 1 refine AOL.s1 (h := ?_)
  refine AOL.nil ?_
  refine AW.kq [0, 1, 2] (h := ?_)
  repeat refine AW.seq ?_
  refine AW.reg ?_
  iterate 1 refine AOL.s1 (h := ?_)
  refine AOL.callD rfl (modular_no_c hm) (by kernel_rfl) rfl rfl (h := ?_)
  refine AOL.nil ?_
  refine AW.kq [0, 1, 2, 8] (h := ?_)
  repeat refine AW.seq ?_
  refine AW.cond rfl (fun c_ => ?_) (fun c_ => ?_)
  · cases c_
  refine AW.skip ?_
  repeat refine AW.seq ?_
  refine AW.drw 11 [] (by kernel_rfl) (h := ?_)
  refine ADL.dm 11 (h := ?_)
  refine ADL.done hmix rfl rfl (hT := ?_)
  iterate 1 refine AOL.s1 (h := ?_)
  refine AOL.nil ?_
  refine AW.kq [6] (h := ?_)
  repeat refine AW.seq ?_
  refine AW.ret ?_
  refine ⟨_, [], rfl, HOk.nil _, ?_⟩
  have h3 := lt_mod hm a
  have h4 := lt_mod hm b
  simp only [one?]
  rw [tmod_nn ha.1, tmod_nn hb.1, wrapU_o (n := a % m + m) (by omega) (by omega), wrapU_o (by omega) (by omega), tmod_nn (by omega)]
  rw [show a % m + m - b % m = (a % m - b % m) + m by omega, Int.add_emod_right, ← Int.sub_emod]
end Go.Proofs.Ytdbpjegocmdplaa.E.M
end
section
/- The library's Len64, LeadingZeros64 and Mul64, off the shelf. -/
namespace Go.Proofs
open Go.Shelf
def Try.lays134_ren : Go.Shelf.Ren := ⟨fun | 134 => 92 | 129 => 93 | n => n, fun | 53 => 25 | 3 => 3 | 4 => 4 | 46 => 100 | 5 => 5 | 9 => 9 | n => n, fun | n => n⟩
theorem Try.lays134 : Go.Proofs.Lays.n134 Try.prog Try.lays134_ren := {
  mixed := by kernel_rfl
  f129 := Try.func93.trans (congrArg some (by kernel_rfl))
  f134 := Try.func92.trans (congrArg some (by kernel_rfl))
  t3 := Try.underlying3
  a3 := Try.isAgg3
  z3 := Try.sizeOf3
  v3 := Try.zeroValue3
  t4 := Try.underlying4
  a4 := Try.isAgg4
  z4 := Try.sizeOf4
  v4 := Try.zeroValue4
  t5 := Try.underlying5
  a5 := Try.isAgg5
  z5 := Try.sizeOf5
  v5 := Try.zeroValue5
  t9 := Try.underlying9
  a9 := Try.isAgg9
  z9 := Try.sizeOf9
  v9 := Try.zeroValue9
  t46 := Try.underlying100
  a46 := Try.isAgg100
  z46 := Try.sizeOf100
  v46 := Try.zeroValue100
  t53 := Try.underlying25
  a53 := Try.isAgg25
  z53 := Try.sizeOf25
  v53 := Try.zeroValue25 }
theorem Try.bits_LeadingZeros64 (x : Int) (w : World) (h0 : 0 ≤ x) (h1 : x ≤ 18446744073709551615) :
    Calls Try.prog 92 #[.int .u64 x] w fun e w' => e = .returned (.int .i64 (64 - (Lib.bitLen x.toNat : Int))) ∧ w' = w := Any.bits_LeadingZeros64 Try.lays134 x w h0 h1
def Try.lays129_ren : Go.Shelf.Ren := ⟨fun | 129 => 93 | n => n, fun | 53 => 25 | 3 => 3 | 4 => 4 | 46 => 100 | 5 => 5 | 9 => 9 | n => n, fun | n => n⟩
theorem Try.lays129 : Go.Proofs.Lays.n129 Try.prog Try.lays129_ren := {
  mixed := by kernel_rfl
  f129 := Try.func93.trans (congrArg some (by kernel_rfl))
  t3 := Try.underlying3
  a3 := Try.isAgg3
  z3 := Try.sizeOf3
  v3 := Try.zeroValue3
  t4 := Try.underlying4
  a4 := Try.isAgg4
  z4 := Try.sizeOf4
  v4 := Try.zeroValue4
  t5 := Try.underlying5
  a5 := Try.isAgg5
  z5 := Try.sizeOf5
  v5 := Try.zeroValue5
  t9 := Try.underlying9
  a9 := Try.isAgg9
  z9 := Try.sizeOf9
  v9 := Try.zeroValue9
  t46 := Try.underlying100
  a46 := Try.isAgg100
  z46 := Try.sizeOf100
  v46 := Try.zeroValue100
  t53 := Try.underlying25
  a53 := Try.isAgg25
  z53 := Try.sizeOf25
  v53 := Try.zeroValue25 }
theorem Try.bits_Len64 (x : Int) (w : World) (h0 : 0 ≤ x) (h1 : x ≤ 18446744073709551615) :
    Calls Try.prog 93 #[.int .u64 x] w fun e w' => e = .returned (.int .i64 (Lib.bitLen x.toNat)) ∧ w' = w := Any.bits_Len64 Try.lays129 x w h0 h1
def Try.lays264_ren : Go.Shelf.Ren := ⟨fun | 264 => 80 | n => n, fun | 53 => 25 | 46 => 100 | n => n, fun | n => n⟩
theorem Try.lays264 : Go.Proofs.Lays.n264 Try.prog Try.lays264_ren := {
  mixed := by kernel_rfl
  f264 := Try.func80.trans (congrArg some (by kernel_rfl))
  t46 := Try.underlying100
  a46 := Try.isAgg100
  z46 := Try.sizeOf100
  v46 := Try.zeroValue100
  t53 := Try.underlying25
  a53 := Try.isAgg25
  z53 := Try.sizeOf25
  v53 := Try.zeroValue25 }
open Go.RowKit Go.Lib in
theorem Try.bits_Mul64 (x y : Nat) (hx : x < 18446744073709551616) (hy : y < 18446744073709551616) (w : World) :
    Calls Try.prog 80 #[.int .u64 x, .int .u64 y] w fun e w' => e = .returned (.tuple #[.int .u64 ((x * y / 18446744073709551616 : Nat) : Int), .int .u64 ((x * y % 18446744073709551616 : Nat) : Int)]) ∧ w' = w := Any.bits_Mul64 Try.lays264 x y hx hy w
end Go.Proofs
end
section
/- Div64 is division; Mul64 and LeadingZeros64: contracts over E. -/
set_option linter.unusedVariables false
set_option linter.unusedSimpArgs false
set_option maxRecDepth 10000
open Go Go.Proofs.Ytdbpjegocmdplaa.E Go.Proofs
namespace Go.Proofs.Ytdbpjegocmdplaa.E.M
theorem wu64 (n : Int) : IntKind.u64.wrap n = n % 18446744073709551616 := by simp [IntKind.wrap, IntKind.bits, IntKind.signed]
/-- what is so in a digit's loop -/
structure Dig (Y y1 y0 u a q : Int) : Prop where
  hY : Y = y1 * 4294967296 + y0
  y1l : 2147483648 ≤ y1
  y1h : y1 < 4294967296
  y0l : 0 ≤ y0
  y0h : y0 < 4294967296
  ul : 0 ≤ u
  uh : u < Y
  al : 0 ≤ a
  ah : a < 4294967296
  ql : 0 ≤ q
  lo : q * Y ≤ u * 4294967296 + a
  hi : u * 4294967296 + a < q * Y + Y

theorem Dig.qh {Y y1 y0 u a q : Int} (d : Dig Y y1 y0 u a q) : q < 4294967296 := by
  obtain ⟨hY, y1l, y1h, y0l, y0h, ul, uh, al, ah, ql, lo, hi⟩ := d
  have h : q * Y < 4294967296 * Y := by omega
  exact Int.lt_of_mul_lt_mul_right h (by omega)

theorem Dig.prod {Y y1 y0 u a q : Int} (d : Dig Y y1 y0 u a q) (x : Int) : x * Y = x * y1 * 4294967296 + x * y0 := by
  rw [d.hY, Int.mul_add, Int.mul_assoc]

theorem mul_lt_KK {x y : Int} (h0 : 0 ≤ x) (h1 : x < 4294967296) (h2 : 0 ≤ y) (h3 : y < 4294967296) : 0 ≤ x * y ∧ x * y ≤ 18446744065119617025 := by
  refine ⟨Int.mul_nonneg h0 h2, ?_⟩
  have := Int.mul_le_mul (a := x) (b := y) (c := 4294967295) (d := 4294967295) (by omega) (by omega) h2 (by omega)
  omega

theorem more_than {Y y1 y0 u a q : Int} (d : Dig Y y1 y0 u a q) {x r : Int} (hx : q + 1 ≤ x) (hr : x * y1 + r = u) : r * 4294967296 + a < x * y0 := by
  have p := d.prod x
  have h : (q + 1) * Y ≤ x * Y := Int.mul_le_mul_of_nonneg_right hx (by have := d.hY; have := d.y1l; have := d.y0l; omega)
  have e : (q + 1) * Y = q * Y + Y := by rw [Int.add_mul, Int.one_mul]
  have hi := d.hi
  have : u * 4294967296 = x * y1 * 4294967296 + r * 4294967296 := by rw [← hr, Int.add_mul]
  omega

theorem bitLenAux_spec : ∀ (f x : Nat), x < 2 ^ f → x < 2 ^ Lib.bitLenAux f x ∧ (x ≠ 0 → 0 < Lib.bitLenAux f x ∧ 2 ^ (Lib.bitLenAux f x - 1) ≤ x)
  | 0, x, h => by
    have : x = 0 := by simpa using h
    subst this; simp [Lib.bitLenAux]
  | f + 1, x, h => by
    simp only [Lib.bitLenAux]
    split
    · rename_i h0; subst h0; simp
    · rename_i h0
      have ih := bitLenAux_spec f (x / 2) (by rw [Nat.pow_succ] at h; omega)
      refine ⟨?_, fun _ => ⟨by omega, ?_⟩⟩
      · rw [Nat.add_comm, Nat.pow_succ]; omega
      · rw [Nat.add_sub_cancel_left]
        by_cases hx : x / 2 = 0
        · rw [hx]
          have : Lib.bitLenAux f 0 = 0 := by cases f <;> simp [Lib.bitLenAux]
          rw [this]; simp; omega
        · obtain ⟨hp, hl⟩ := ih.2 hx
          have : 2 ^ Lib.bitLenAux f (x / 2) = 2 * 2 ^ (Lib.bitLenAux f (x / 2) - 1) := by
            rw [← Nat.pow_succ']; congr 1; omega
          omega

/-- the divisor, shifted up to its highest bit -/
theorem norm_shift (y : Int) (h0 : 0 < y) (h1 : y < 18446744073709551616) :
    ∃ (s : Nat) (T U : Int), (64 - (Lib.bitLen y.toNat : Int)) = s ∧ s < 64 ∧ T = 2 ^ s ∧ U = 2 ^ (64 - s) ∧ 0 < T ∧ 0 < U ∧ T * U = 18446744073709551616 ∧ 9223372036854775808 ≤ y * T ∧ y * T < 18446744073709551616 := by
  obtain ⟨n, rfl⟩ := Int.eq_ofNat_of_zero_le (Int.le_of_lt h0)
  have hn : n < 2 ^ 64 := by omega
  have hb := bitLenAux_spec 64 n hn
  have hle := Lib.bitLen_le n 64 (Nat.le_refl _) hn
  have hs := hb.2 (by omega)
  rw [Int.toNat_natCast]
  generalize hB : Lib.bitLen n = B at *
  have hB' : Lib.bitLenAux 64 n = B := hB
  rw [hB'] at hb hs
  refine ⟨64 - B, 2 ^ (64 - B), 2 ^ (64 - (64 - B)), by omega, by omega, rfl, rfl, Int.pow_pos (by decide), Int.pow_pos (by decide), ?_, ?_, ?_⟩
  · rw [← Int.pow_add, show 64 - B + (64 - (64 - B)) = 64 by omega]; decide
  · have h2 : 2 ^ (B - 1) * 2 ^ (64 - B) ≤ n * 2 ^ (64 - B) := Nat.mul_le_mul_right _ hs.2
    rw [← Nat.pow_add, show B - 1 + (64 - B) = 63 by omega] at h2
    have : ((2 ^ 63 : Nat) : Int) ≤ ((n * 2 ^ (64 - B) : Nat) : Int) := by exact_mod_cast h2
    simpa using this
  · have h2 : n * 2 ^ (64 - B) < 2 ^ B * 2 ^ (64 - B) := Nat.mul_lt_mul_of_pos_right hb.1 (Nat.two_pow_pos _)
    rw [← Nat.pow_add, show B + (64 - B) = 64 by omega] at h2
    have : ((n * 2 ^ (64 - B) : Nat) : Int) < ((2 ^ 64 : Nat) : Int) := by exact_mod_cast h2
    simpa using this

theorem div_of {N y Q r : Int} (hy : 0 < y) (h : N = Q * y + r) (h0 : 0 ≤ r) (h1 : r < y) : N / y = Q ∧ N % y = r := by
  subst h
  constructor
  · rw [Int.add_comm, Int.add_mul_ediv_right _ _ (by omega), Int.ediv_eq_zero_of_lt h0 h1]; omega
  · rw [Int.add_comm, Int.add_mul_emod_self_right, Int.emod_eq_of_lt h0 h1]


theorem and_low {x : Int} (h0 : 0 ≤ x) (h1 : x < 18446744073709551616) : IntKind.u64.wrap ((BitVec.ofInt IntKind.u64.bits x &&& BitVec.ofInt IntKind.u64.bits 4294967295).toNat : Int) = x % 4294967296 := by
  obtain ⟨n, rfl⟩ := Int.eq_ofNat_of_zero_le h0
  have h2 : (BitVec.ofInt IntKind.u64.bits (n:Int) &&& BitVec.ofInt IntKind.u64.bits 4294967295).toNat = n % 4294967296 := by
    rw [BitVec.toNat_and, BitVec.toNat_ofInt, BitVec.toNat_ofInt]
    have e1 : ((n:Int) % ((2 ^ IntKind.u64.bits : Nat) : Int)).toNat = n := by simp only [IntKind.bits]; omega
    have e2 : ((4294967295:Int) % ((2 ^ IntKind.u64.bits : Nat) : Int)).toNat = 2 ^ 32 - 1 := by decide
    rw [e1, e2, Nat.and_two_pow_sub_one_eq_mod]
  rw [h2, wrapU_o (by omega) (by omega)]; omega
theorem and_one {x : Int} (h0 : 0 ≤ x) (h1 : x < 18446744073709551616) : IntKind.u64.wrap ((BitVec.ofInt IntKind.u64.bits x &&& BitVec.ofInt IntKind.u64.bits 1).toNat : Int) = x % 2 := by
  obtain ⟨n, rfl⟩ := Int.eq_ofNat_of_zero_le h0
  have h2 : (BitVec.ofInt IntKind.u64.bits (n:Int) &&& BitVec.ofInt IntKind.u64.bits 1).toNat = n % 2 := by
    rw [BitVec.toNat_and, BitVec.toNat_ofInt, BitVec.toNat_ofInt]
    have e1 : ((n:Int) % ((2 ^ IntKind.u64.bits : Nat) : Int)).toNat = n := by simp only [IntKind.bits]; omega
    have e2 : ((1:Int) % ((2 ^ IntKind.u64.bits : Nat) : Int)).toNat = 1 := by decide
    rw [e1, e2, Nat.and_one_is_mod]
  rw [h2, wrapU_o (by omega) (by omega)]; omega
theorem or_join {T a b : Int} (s : Nat) (hs : s < 64) (hT : T = 2 ^ s) (h0 : 0 ≤ a) (h1 : a * T + b < 18446744073709551616) (hb0 : 0 ≤ b) (hb : b < T) : IntKind.u64.wrap ((BitVec.ofInt IntKind.u64.bits (a * T) ||| BitVec.ofInt IntKind.u64.bits b).toNat : Int) = a * T + b := by
  obtain ⟨n, rfl⟩ := Int.eq_ofNat_of_zero_le h0
  obtain ⟨m, rfl⟩ := Int.eq_ofNat_of_zero_le hb0
  have hT' : T = ((2 ^ s : Nat) : Int) := by rw [hT]; exact (Int.natCast_pow 2 s).symm
  rw [hT'] at h1 hb ⊢
  have hb' : m < 2 ^ s := Int.ofNat_lt.1 hb
  rw [← Int.natCast_mul] at h1 ⊢
  have hor : n * 2 ^ s + m = n * 2 ^ s ||| m := by rw [Nat.mul_comm n, ← Nat.two_pow_add_eq_or_of_lt hb']
  generalize n * 2 ^ s = k at *
  have e1 : ((k:Int) % ((2 ^ IntKind.u64.bits : Nat) : Int)).toNat = k := by simp only [IntKind.bits]; omega
  have e2 : ((m:Int) % ((2 ^ IntKind.u64.bits : Nat) : Int)).toNat = m := by simp only [IntKind.bits]; omega
  have h2 : (BitVec.ofInt IntKind.u64.bits (k:Int) ||| BitVec.ofInt IntKind.u64.bits (m:Int)).toNat = k + m := by
    rw [BitVec.toNat_or, BitVec.toNat_ofInt, BitVec.toNat_ofInt, e1, e2, hor]
  rw [h2, wrapU_o (by omega) (by omega)]; omega
theorem shr32 {x : Int} (h0 : 0 ≤ x) : x.fdiv (2 ^ min (Int.toNat 32) IntKind.u64.bits) = x / 4294967296 := by
  rw [show (2:Int) ^ min (Int.toNat 32) IntKind.u64.bits = 4294967296 by decide, Int.fdiv_eq_ediv_of_nonneg _ (by decide)]
theorem dig_test0 {Y y1 y0 u a q r : Int} (d : Dig Y y1 y0 u a q) (r0 : 0 ≤ r) (r1 : r < 4294967296) (hr : q * y1 + r = u) : (decide (q ≥ 4294967296) || decide (IntKind.u64.wrap (q * y0) > IntKind.u64.wrap (IntKind.u64.wrap (4294967296 * r) + a))) = false := by
  have qh := d.qh
  have ql := d.ql
  have hlo := d.lo
  have p := d.prod q
  have m := mul_lt_KK ql qh d.y0l d.y0h
  have e : u * 4294967296 = q * y1 * 4294967296 + r * 4294967296 := by rw [← hr, Int.add_mul]
  have al := d.al
  have ah := d.ah
  have w1 : IntKind.u64.wrap (q * y0) = q * y0 := wrapU_o m.1 (by omega)
  have w2 : IntKind.u64.wrap (4294967296 * r) = 4294967296 * r := wrapU_o (by omega) (by omega)
  have w3 : IntKind.u64.wrap (4294967296 * r + a) = 4294967296 * r + a := wrapU_o (by omega) (by omega)
  rw [w1, w2, w3, Bool.or_eq_false_iff]
  constructor <;> simp <;> omega
theorem dig_test1 {Y y1 y0 u a q x r : Int} {n : Nat} (d : Dig Y y1 y0 u a q) (hx : q + (n + 1 : Nat) = x) (r0 : 0 ≤ r) (r1 : r < 4294967296) (hr : x * y1 + r = u) :
    (decide (x ≥ 4294967296) || decide (IntKind.u64.wrap (x * y0) > IntKind.u64.wrap (IntKind.u64.wrap (4294967296 * r) + a))) = true := by
  have ql := d.ql
  have qh := d.qh
  have mt := more_than d (x := x) (r := r) (by omega) hr
  have al := d.al
  have ah := d.ah
  by_cases hb : x ≥ 4294967296
  · simp [hb]
  · have m := mul_lt_KK (x := x) (y := y0) (by omega) (by omega) d.y0l d.y0h
    have w1 : IntKind.u64.wrap (x * y0) = x * y0 := wrapU_o m.1 (by omega)
    have w2 : IntKind.u64.wrap (4294967296 * r) = 4294967296 * r := wrapU_o (by omega) (by omega)
    have w3 : IntKind.u64.wrap (4294967296 * r + a) = 4294967296 * r + a := wrapU_o (by omega) (by omega)
    rw [w1, w2, w3]; simp; omega
theorem dig_next {Y y1 y0 u a q x r : Int} {n : Nat} (d : Dig Y y1 y0 u a q) (hY : Y < 18446744073709551616) (hx : q + (n + 1 : Nat) = x) (r0 : 0 ≤ r) (r1 : r < 4294967296) (hr : x * y1 + r = u) :
    IntKind.u64.wrap (x - 1) = x - 1 ∧ IntKind.u64.wrap (r + y1) = r + y1 ∧ (x - 1) * y1 + (r + y1) = u ∧ (r + y1 ≥ 4294967296 → n = 0) := by
  have ql := d.ql
  have y1l := d.y1l
  have y1h := d.y1h
  have e1 : (x - 1) * y1 + (r + y1) = u := by rw [Int.sub_mul, Int.one_mul]; omega
  have xlt : x < 18446744073709551616 := by
    have ul := d.uh
    by_cases h : x < 18446744073709551616
    · exact h
    · exfalso
      have := Int.mul_le_mul (a := 18446744073709551616) (b := 1) (c := x) (d := y1) (by omega) (by omega) (by omega) (by omega)
      omega
  refine ⟨wrapU_o (by omega) (by omega), wrapU_o (by omega) (by omega), e1, fun hb => ?_⟩
  by_cases hn : n = 0
  · exact hn
  exfalso
  have mt' := more_than d (x := x - 1) (r := r + y1) (by omega) e1
  have xl : x - 1 < 4294967296 := by
    have uh := d.uh
    have hY := d.hY
    have y0h := d.y0h
    have : (x - 1) * y1 < 4294967296 * y1 := by omega
    exact Int.lt_of_mul_lt_mul_right this (by omega)
  have m := mul_lt_KK (x := x - 1) (y := y0) (by omega) xl d.y0l d.y0h
  have al := d.al
  omega
theorem math_bits_Mul64_c {a b : Int} (ha : w64 a) (hb : w64 b) : Fn Try.prog 80 [u a, u b] [] (fun r _ => r = .tup [u (a * b / 18446744073709551616), u (a * b % 18446744073709551616)]) := by
  obtain ⟨x, rfl⟩ := Int.eq_ofNat_of_zero_le ha.1
  obtain ⟨y, rfl⟩ := Int.eq_ofNat_of_zero_le hb.1
  refine Fn.ofCalls (args := [.int .u64 x, .int .u64 y]) (v := .tuple #[.int .u64 (x * y / 18446744073709551616), .int .u64 (x * y % 18446744073709551616)]) ?_ rfl ?_
  · intro ρ F w vs h
    simp only [VRs, VR] at h
    obtain ⟨_, _, rfl, rfl, _, _, rfl, rfl, rfl⟩ := h; rfl
  · exact fun w => (Try.bits_Mul64 x y (by omega) (by omega) w).mono fun e w' h => by
      obtain ⟨rfl, rfl⟩ := h
      exact ⟨by simp, .refl _ _⟩
theorem math_bits_LeadingZeros64_c {a : Int} (ha : w64 a) : Fn Try.prog 92 [u a] [] (fun r _ => r = i (64 - (Lib.bitLen a.toNat : Int))) := by
  refine Fn.ofCalls (args := [.int .u64 a]) (v := .int .i64 (64 - (Lib.bitLen a.toNat : Int))) ?_ rfl ?_
  · intro ρ F w vs h
    simp only [VRs, VR] at h
    obtain ⟨_, _, rfl, rfl, rfl⟩ := h; rfl
  · exact fun w => (Try.bits_LeadingZeros64 a w ha.1 (by omega)).mono fun e w' h => by
      obtain ⟨rfl, rfl⟩ := h
      exact ⟨rfl, .refl _ _⟩

set_option maxHeartbeats 2000000 in
theorem math_bits_Div64_c {hi lo y : Int} (h0 : 0 ≤ hi) (h1 : hi < y) (h2 : 0 ≤ lo) (h3 : lo < 18446744073709551616) (h4 : y < 18446744073709551616) : Fn Try.prog 81 [u hi, u lo, u y] [] (fun r _ => r = .tup [u ((hi * 18446744073709551616 + lo) / y), u ((hi * 18446744073709551616 + lo) % y)]) := by
  have z1 : (y == 0) = false := by simp; omega
  have z2 : decide (y ≤ hi) = false := by simp; omega
  refine Fn.enter Try.func81 Try.ntmps81 rfl (h := ?_)
  repeat refine AW.seq ?_
  refine AW.reg ?_
  iterate 2 refine AOL.s1 (h := ?_)
  refine AOL.nil ?_
  refine AW.kq [0, 1, 2] (h := ?_)
  repeat refine AW.seq ?_
  refine AW.reg ?_
  iterate 2 refine AOL.s1 (h := ?_)
  refine AOL.nil ?_
  refine AW.kq [0, 1, 2, 20] (h := ?_)
  repeat refine AW.seq ?_
  refine AW.cond rfl (fun c_ => ?_) (fun c_ => ?_)
  · cases c_
  refine AW.skip ?_
  repeat refine AW.seq ?_
  refine AW.reg ?_
  iterate 3 refine AOL.s1 (h := ?_)
  refine AOL.nil ?_
  refine AW.kq [0, 1, 2, 24] (h := ?_)
  repeat refine AW.seq ?_
  refine AW.cond rfl (fun c_ => ?_) (fun c_ => ?_)
  · cases c_
  refine AW.skip ?_
  repeat refine AW.seq ?_
  refine AW.reg ?_
  iterate 2 refine AOL.s1 (h := ?_)
  refine AOL.nil ?_
  refine AW.kq [0, 1, 2, 27] (h := ?_)
  repeat refine AW.seq ?_
  refine AW.cond rfl (fun c_ => ?_) (fun c_ => ?_)
  · have hz : hi = 0 := by simpa using c_
    have hy : ¬ y = 0 := by omega
    repeat refine AW.seq ?_
    refine AW.drw 7 [] (by kernel_rfl) (h := ?_)
    refine ADL.dm 7 (h := ?_)
    refine ADL.done hmix rfl rfl (hT := ?_)
    iterate 1 refine AOL.s1 (h := ?_)
    refine AOL.nil ?_
    refine AW.kq [6, 7] (h := ?_)
    repeat refine AW.seq ?_
    refine AW.ret ?_
    refine ⟨_, [], rfl, HOk.nil _, ?_⟩
    have := Int.ediv_le_self y h2
    have := Int.ediv_nonneg h2 (show 0 ≤ y by omega)
    simp only [one?]
    rw [hz, Int.zero_mul, Int.zero_add, Int.tdiv_eq_ediv_of_nonneg h2, Int.tmod_eq_emod_of_nonneg h2, wrapU_o (by omega) (by omega)]
  have hz : ¬ hi = 0 := by simpa using c_
  obtain ⟨s, T, U, hs, s64, hT, hU, Tp, Up, hTU, nl, nh⟩ := norm_shift y (by omega) h4
  have ws : IntKind.u64.wrap (s : Int) = s := wrapU_o (by omega) (by omega)
  have ws' : IntKind.u64.wrap (64 - (s : Int)) = ((64 - s : Nat) : Int) := by rw [wrapU_o (by omega) (by omega)]; omega
  have n1 : ¬ (s : Int) < 0 := by omega
  have n2 : ¬ ((64 - s : Nat) : Int) < 0 := by omega
  have m1 : min s IntKind.u64.bits = s := Nat.min_eq_left (by simp [IntKind.bits]; omega)
  have m2 : min (64 - s) IntKind.u64.bits = 64 - s := Nat.min_eq_left (by simp [IntKind.bits])
  have hT0 : 0 ≤ hi * T := Int.mul_nonneg h0 (by omega)
  have hT1 : hi * T + T ≤ y * T := by
    have : (hi + 1) * T ≤ y * T := Int.mul_le_mul_of_nonneg_right (by omega) (by omega)
    rw [Int.add_mul, Int.one_mul] at this; exact this
  have sY : IntKind.u64.wrap (y * 2 ^ s) = y * T := by rw [← hT]; exact wrapU_o (by omega) nh
  have sH : IntKind.u64.wrap (hi * 2 ^ s) = hi * T := by rw [← hT]; exact wrapU_o hT0 (by omega)
  have sL : IntKind.u64.wrap (lo * 2 ^ s) = lo * T % 18446744073709551616 := by rw [← hT]; exact wu64 _
  have sR : lo.fdiv (2 ^ (64 - s)) = lo / U := by rw [← hU, Int.fdiv_eq_ediv_of_nonneg _ (by omega)]
  have loU0 : 0 ≤ lo / U := Int.ediv_nonneg h2 (by omega)
  have loU1 : lo / U < T := Int.ediv_lt_of_lt_mul Up (by rw [hTU]; exact h3)
  have join := or_join (T := T) (a := hi) (b := lo / U) s s64 hT h0 (by omega) loU0 loU1
  have hlz := math_bits_LeadingZeros64_c (a := y) ⟨by omega, h4⟩
  rw [hs] at hlz
  have hY1 := shr32 (x := y * T) (by omega)
  have hY0 := and_low (x := y * T) (by omega) nh
  have hL0 := and_low (x := lo * T % 18446744073709551616) (Int.emod_nonneg _ (by decide)) (Int.emod_lt_of_pos _ (by decide))
  have hL1 := shr32 (x := lo * T % 18446744073709551616) (Int.emod_nonneg _ (by decide))
  have hT3 : id (T = 2 ^ s) := hT
  have hU3 : id (U = 2 ^ (64 - s)) := hU
  clear hT hU
  clear z1 z2
  refine AW.skip ?_
  repeat refine AW.seq ?_
  refine AW.reg ?_
  iterate 1 refine AOL.s1 (h := ?_)
  refine AOL.callD rfl (hlz) (by kernel_rfl) rfl rfl (h := ?_)
  iterate 2 refine AOL.s1 (h := ?_)
  refine AOL.nil ?_
  refine AW.kq [0, 1, 2, 8] (h := ?_)
  repeat refine AW.seq ?_
  refine AW.reg ?_
  iterate 4 refine AOL.s1 (h := ?_)
  refine AOL.nil ?_
  refine AW.kq [0, 1, 2, 8] (h := ?_)
  repeat refine AW.seq ?_
  refine AW.reg ?_
  iterate 3 refine AOL.s1 (h := ?_)
  refine AOL.nil ?_
  refine AW.kq [0, 1, 2, 8, 9] (h := ?_)
  repeat refine AW.seq ?_
  refine AW.reg ?_
  iterate 3 refine AOL.s1 (h := ?_)
  refine AOL.nil ?_
  refine AW.kq [0, 1, 2, 8, 9, 10] (h := ?_)
  repeat refine AW.seq ?_
  refine AW.reg ?_
  iterate 9 refine AOL.s1 (h := ?_)
  refine AOL.nil ?_
  refine AW.kq [1, 2, 8, 9, 10, 11] (h := ?_)
  repeat refine AW.seq ?_
  refine AW.reg ?_
  iterate 4 refine AOL.s1 (h := ?_)
  refine AOL.nil ?_
  refine AW.kq [2, 8, 9, 10, 11, 12] (h := ?_)
  repeat refine AW.seq ?_
  refine AW.reg ?_
  iterate 3 refine AOL.s1 (h := ?_)
  refine AOL.nil ?_
  refine AW.kq [2, 8, 9, 10, 11, 12, 13] (h := ?_)
  repeat refine AW.seq ?_
  refine AW.reg ?_
  iterate 3 refine AOL.s1 (h := ?_)
  refine AOL.nil ?_
  refine AW.kq [2, 8, 9, 10, 11, 13, 14] (h := ?_)
  -- the low word
  have hT : 2 ^ s = T := hT3.symm
  have lowq : lo * T = (lo / U) * 18446744073709551616 + (lo % U) * T := by
    have := Int.mul_ediv_add_emod lo U
    conv => lhs; rw [← this]
    rw [Int.add_mul, Int.mul_right_comm, Int.mul_comm U T, hTU]; rw [Int.mul_comm]
  have lm0 : 0 ≤ lo % U := Int.emod_nonneg _ (by omega)
  have lm1 : lo % U < U := Int.emod_lt_of_pos _ Up
  have lT0 : 0 ≤ lo % U * T := Int.mul_nonneg lm0 (by omega)
  have lT1 : lo % U * T < 18446744073709551616 := by
    rw [← hTU, Int.mul_comm T U]; exact Int.mul_lt_mul_of_pos_right lm1 Tp
  have hL : lo * T % 18446744073709551616 = lo % U * T := by rw [lowq]; omega
  clear hL0 hL1 hY0 hY1 join sY sH sL sR hlz ws ws' n1 n2 m1 m2
  rw [hL]
  generalize hLL : lo % U * T = L at *
  generalize hYY : y * T = Y at *
  generalize huu : hi * T + lo / U = u0 at *
  have hN : (hi * 18446744073709551616 + lo) * T = u0 * 18446744073709551616 + L := by
    rw [Int.add_mul, lowq, ← huu, Int.add_mul, Int.mul_right_comm]; omega
  have Yp : 0 < Y := by omega
  have y1 : 2147483648 ≤ Y / 4294967296 := by omega
  -- the digits
  have dm1 := Int.mul_ediv_add_emod (u0 * 4294967296 + L / 4294967296) Y
  have q1n : 0 ≤ (u0 * 4294967296 + L / 4294967296) / Y := Int.ediv_nonneg (by omega) (by omega)
  have r1n := Int.emod_nonneg (u0 * 4294967296 + L / 4294967296) (b := Y) (by omega)
  have r1h := Int.emod_lt_of_pos (u0 * 4294967296 + L / 4294967296) Yp
  generalize hq1 : (u0 * 4294967296 + L / 4294967296) / Y = q1 at *
  generalize hv : (u0 * 4294967296 + L / 4294967296) % Y = v at *
  have dm0 := Int.mul_ediv_add_emod (v * 4294967296 + L % 4294967296) Y
  have q0n : 0 ≤ (v * 4294967296 + L % 4294967296) / Y := Int.ediv_nonneg (by omega) (by omega)
  have r0n := Int.emod_nonneg (v * 4294967296 + L % 4294967296) (b := Y) (by omega)
  have r0h := Int.emod_lt_of_pos (v * 4294967296 + L % 4294967296) Yp
  generalize hq0 : (v * 4294967296 + L % 4294967296) / Y = q0 at *
  generalize hr0 : (v * 4294967296 + L % 4294967296) % Y = r0 at *
  rw [Int.mul_comm] at dm1 dm0
  have D1 : Dig Y (Y / 4294967296) (Y % 4294967296) u0 (L / 4294967296) q1 :=
    ⟨by omega, y1, by omega, by omega, by omega, by omega, by omega, by omega, by omega, q1n, by omega, by omega⟩
  have D0 : Dig Y (Y / 4294967296) (Y % 4294967296) v (L % 4294967296) q0 :=
    ⟨by omega, y1, by omega, by omega, by omega, r1n, r1h, by omega, by omega, q0n, by omega, by omega⟩
  have q1h := D1.qh
  have q0h := D0.qh
  -- the rest, shifted back
  have tot : (hi * 18446744073709551616 + lo) * T = (q1 * 4294967296 + q0) * Y + r0 := by
    rw [hN, Int.add_mul, Int.mul_right_comm]; omega
  have rdiv : r0 = (hi * 18446744073709551616 + lo - (q1 * 4294967296 + q0) * y) * T := by
    rw [Int.sub_mul, tot, Int.mul_assoc _ y T, hYY]; omega
  generalize hr : hi * 18446744073709551616 + lo - (q1 * 4294967296 + q0) * y = rr at *
  have rr0 : 0 ≤ rr := by
    rcases Int.lt_or_le rr 0 with h | h
    · have := Int.mul_neg_of_neg_of_pos h Tp; omega
    · exact h
  have rr1 : rr < y := by
    have : rr * T < y * T := by omega
    exact Int.lt_of_mul_lt_mul_right this (by omega)
  obtain ⟨ed, em⟩ := div_of (N := hi * 18446744073709551616 + lo) (y := y) (Q := q1 * 4294967296 + q0) (r := rr) (by omega) (by omega) rr0 rr1
  rw [ed, em]
  -- the estimates
  have est : ∀ {x c q : Int}, Dig Y (Y / 4294967296) (Y % 4294967296) x c q → ∃ n : Nat, x / (Y / 4294967296) = q + n := by
    intro x c q d
    have hp := d.prod q
    have hle : q * (Y / 4294967296) ≤ x := by
      have := d.lo
      have := d.ah
      have := Int.mul_nonneg d.ql d.y0l
      omega
    have : q ≤ x / (Y / 4294967296) := (Int.le_ediv_iff_mul_le (by omega)).2 hle
    exact ⟨(x / (Y / 4294967296) - q).toNat, by omega⟩
  obtain ⟨n1, hn1'⟩ := est D1
  obtain ⟨n0, hn0'⟩ := est D0
  have hn1 := hn1'.symm
  have hn0 := hn0'.symm
  clear hn1' hn0'
  have wdiv : ∀ {x : Int}, 0 ≤ x → x < Y → IntKind.u64.wrap (Int.tdiv x (Y / 4294967296)) = x / (Y / 4294967296) ∧ IntKind.u64.wrap (x - IntKind.u64.wrap (x / (Y / 4294967296) * (Y / 4294967296))) = x % (Y / 4294967296) := by
    intro x x0 x1
    have a := Int.ediv_nonneg (a := x) (b := Y / 4294967296) x0 (by omega)
    have b := Int.ediv_le_self (Y / 4294967296) x0
    have c := Int.mul_ediv_add_emod x (Y / 4294967296)
    have e := Int.emod_nonneg x (b := Y / 4294967296) (by omega)
    have f := Int.emod_lt_of_pos x (b := Y / 4294967296) (by omega)
    rw [Int.mul_comm] at c
    rw [Int.tdiv_eq_ediv_of_nonneg x0]
    have g : 0 ≤ x / (Y / 4294967296) * (Y / 4294967296) := Int.mul_nonneg a (by omega)
    refine ⟨wrapU_o a (by omega), ?_⟩
    rw [wrapU_o g (by omega), wrapU_o (by omega) (by omega)]; omega
  have W1 := wdiv D1.ul D1.uh
  have W0 := wdiv D0.ul D0.uh
  have V1 : u0 / (Y / 4294967296) * (Y / 4294967296) + u0 % (Y / 4294967296) = u0 := by have := Int.mul_ediv_add_emod u0 (Y / 4294967296); rw [Int.mul_comm] at this; exact this
  have V0 : v / (Y / 4294967296) * (Y / 4294967296) + v % (Y / 4294967296) = v := by have := Int.mul_ediv_add_emod v (Y / 4294967296); rw [Int.mul_comm] at this; exact this
  have R1 : 0 ≤ u0 % (Y / 4294967296) ∧ u0 % (Y / 4294967296) < 4294967296 := ⟨Int.emod_nonneg _ (by omega), by have := Int.emod_lt_of_pos u0 (b := Y / 4294967296) (by omega); omega⟩
  have R0 : 0 ≤ v % (Y / 4294967296) ∧ v % (Y / 4294967296) < 4294967296 := ⟨Int.emod_nonneg _ (by omega), by have := Int.emod_lt_of_pos v (b := Y / 4294967296) (by omega); omega⟩
  have wv : IntKind.u64.wrap (IntKind.u64.wrap (IntKind.u64.wrap (u0 * 4294967296) + L / 4294967296) - IntKind.u64.wrap (q1 * Y)) = v := by
    simp only [wu64]; omega
  have wo : IntKind.u64.wrap (IntKind.u64.wrap (q1 * 4294967296) + q0) = q1 * 4294967296 + q0 := by simp only [wu64]; omega
  have wr : (IntKind.u64.wrap (IntKind.u64.wrap (IntKind.u64.wrap (v * 4294967296) + L % 4294967296) - IntKind.u64.wrap (q0 * Y))).fdiv (2 ^ min s IntKind.u64.bits) = rr := by
    have : IntKind.u64.wrap (IntKind.u64.wrap (IntKind.u64.wrap (v * 4294967296) + L % 4294967296) - IntKind.u64.wrap (q0 * Y)) = rr * T := by simp only [wu64]; omega
    rw [this, Nat.min_eq_left (by simp [IntKind.bits]; omega), hT, Int.fdiv_eq_ediv_of_nonneg _ (by omega), Int.mul_ediv_cancel _ (by omega)]
  have hYl : Y < 18446744073709551616 := nh
  have y1n : ¬ Y / 4294967296 = 0 := by omega
  have sn : ¬ (s : Int) < 0 := by omega
  have W11 := W1.1; have W12 := W1.2; have W01 := W0.1; have W02 := W0.2
  clear wdiv est hr rdiv tot W1 W0 hN
  generalize hA : Y / 4294967296 = A at *
  generalize hB : Y % 4294967296 = B at *
  generalize hC : L / 4294967296 = C at *
  generalize hD : L % 4294967296 = E at *
  generalize u0 / A = X1 at *
  generalize u0 % A = X2 at *
  generalize v / A = X3 at *
  generalize v % A = X4 at *
  clear hA hB hC hD lowq hLL hYY huu hq1 hv hq0 hr0 hTU hL ed em
  repeat refine AW.seq ?_
  refine AW.reg ?_
  iterate 4 refine AOL.s1 (h := ?_)
  refine AOL.nil ?_
  refine AW.kq [2, 8, 9, 10, 11, 13, 14, 15] (h := ?_)
  repeat refine AW.seq ?_
  refine AW.reg ?_
  iterate 6 refine AOL.s1 (h := ?_)
  refine AOL.nil ?_
  refine AW.kq [2, 8, 9, 10, 11, 13, 14, 15, 16] (h := ?_)
  repeat refine AW.seq ?_
  refine AW.midK [2, 8, 9, 10, 11, 13, 14, 15] (fun t => t = ⟨135, [(2, u Y), (8, u s), (9, u A), (10, u B), (11, u u0), (13, u C), (14, u E), (15, u q1)], []⟩) ?_ ?_
  · refine AW.block ?_
    repeat refine AW.seq ?_
    refine AW.loopK [2, 8, 9, 10, 11, 13, 14, 15, 16] (fun n t => ∃ x r : Int, t = ⟨135, [(2, u Y), (8, u s), (9, u A), (10, u B), (11, u u0), (13, u C), (14, u E), (15, u x), (16, u r)], []⟩ ∧ q1 + n = x ∧ 0 ≤ r ∧ r < 4294967296 ∧ x * A + r = u0) n1 ?_ ?_
    · exact ⟨_, _, rfl, hn1, R1.1, R1.2, V1⟩
    rintro n t ⟨x, r, rfl, hx, r0, r1, hx2⟩
    repeat refine AW.seq ?_
    refine AW.reg ?_
    iterate 3 refine AOL.s1 (h := ?_)
    refine AOL.kq [2, 8, 9, 10, 11, 13, 14, 15, 16, 69] (h := ?_)
    refine AOL.or 69 78 (os' := ?_) (x := ?_) (h1 := ?_) (h0 := ?_) (h := ?_)
    rotate_left 2
    iterate 2
      · intro hb_ K' hK; (iterate 9 refine AOL.s1 (h := ?_)); refine AOL.kq [2, 8, 9, 10, 11, 13, 14, 15, 16, 78] (h := ?_); exact hK
    refine AOL.nil ?_
    refine AW.kq [2, 8, 9, 10, 11, 13, 14, 15, 16, 78] (h := ?_)
    repeat refine AW.seq ?_
    cases n with
    | zero =>
      have hxq : x = q1 := by omega
      subst hxq
      have t0 := dig_test0 D1 r0 r1 hx2
      refine AW.cond rfl (fun c_ => ?_) (fun c_ => ?_)
      · rw [t0] at c_; cases c_
      repeat refine AW.seq ?_
      refine AW.exit ?_
      repeat (first | refine Kseq.ex ?_ | refine Kloop.ex ?_ | refine Kblock.miss (by decide) ?_)
      refine Kblock.hit ?_
      rfl
    | succ n =>
      have t1 := dig_test1 D1 hx r0 r1 hx2
      obtain ⟨wx, wy, e1, last⟩ := dig_next D1 hYl hx r0 r1 hx2
      refine AW.cond rfl (fun c_ => ?_) (fun c_ => ?_)
      · refine AW.skip ?_
        repeat refine AW.seq ?_
        refine AW.block ?_
        repeat refine AW.seq ?_
        refine AW.reg ?_
        iterate 3 refine AOL.s1 (h := ?_)
        refine AOL.nil ?_
        refine AW.kq [2, 8, 9, 10, 11, 13, 14, 15, 16] (h := ?_)
        repeat refine AW.seq ?_
        refine AW.reg ?_
        iterate 4 refine AOL.s1 (h := ?_)
        refine AOL.nil ?_
        refine AW.kq [2, 8, 9, 10, 11, 13, 14, 15, 16] (h := ?_)
        repeat refine AW.seq ?_
        refine AW.reg ?_
        iterate 2 refine AOL.s1 (h := ?_)
        refine AOL.nil ?_
        refine AW.kq [2, 8, 9, 10, 11, 13, 14, 15, 16, 85] (h := ?_)
        repeat refine AW.seq ?_
        refine AW.cond rfl (fun d_ => ?_) (fun d_ => ?_)
        · have h0 : n = 0 := last (by simpa using d_)
          repeat refine AW.seq ?_
          refine AW.exit ?_
          repeat (first | refine Kseq.ex ?_ | refine Kloop.ex ?_ | refine Kblock.miss (by decide) ?_)
          refine Kblock.hit ?_
          have : x - 1 = q1 := by omega
          rw [this]; rfl
        have d1 : ¬ r + A ≥ 4294967296 := by simpa using d_
        refine AW.skip ?_
        have := D1.y1l
        exact ⟨n, by omega, x - 1, r + A, rfl, by omega, by omega, by omega, e1⟩
      · rw [t1] at c_; cases c_
  rintro t rfl
  repeat refine AW.seq ?_
  refine AW.reg ?_
  iterate 9 refine AOL.s1 (h := ?_)
  refine AOL.nil ?_
  refine AW.kq [2, 8, 9, 10, 14, 15, 17] (h := ?_)
  repeat refine AW.seq ?_
  refine AW.reg ?_
  iterate 4 refine AOL.s1 (h := ?_)
  refine AOL.nil ?_
  refine AW.kq [2, 8, 9, 10, 14, 15, 17, 18] (h := ?_)
  repeat refine AW.seq ?_
  refine AW.reg ?_
  iterate 6 refine AOL.s1 (h := ?_)
  refine AOL.nil ?_
  refine AW.kq [2, 8, 9, 10, 14, 15, 16, 17, 18] (h := ?_)
  repeat refine AW.seq ?_
  refine AW.midK [2, 8, 14, 15, 17, 18] (fun t => t = ⟨135, [(2, u Y), (8, u s), (14, u E), (15, u q1), (17, u v), (18, u q0)], []⟩) ?_ ?_
  · refine AW.block ?_
    repeat refine AW.seq ?_
    refine AW.loopK [2, 8, 9, 10, 14, 15, 16, 17, 18] (fun n t => ∃ x r : Int, t = ⟨135, [(2, u Y), (8, u s), (9, u A), (10, u B), (14, u E), (15, u q1), (16, u r), (17, u v), (18, u x)], []⟩ ∧ q0 + n = x ∧ 0 ≤ r ∧ r < 4294967296 ∧ x * A + r = v) n0 ?_ ?_
    · exact ⟨_, _, rfl, hn0, R0.1, R0.2, V0⟩
    rintro n t ⟨x, r, rfl, hx, r0, r1, hx2⟩
    repeat refine AW.seq ?_
    refine AW.reg ?_
    iterate 3 refine AOL.s1 (h := ?_)
    refine AOL.kq [2, 8, 9, 10, 14, 15, 16, 17, 18, 104] (h := ?_)
    refine AOL.or 104 113 (os' := ?_) (x := ?_) (h1 := ?_) (h0 := ?_) (h := ?_)
    rotate_left 2
    iterate 2
      · intro hb_ K' hK; (iterate 9 refine AOL.s1 (h := ?_)); refine AOL.kq [2, 8, 9, 10, 14, 15, 16, 17, 18, 113] (h := ?_); exact hK
    refine AOL.nil ?_
    refine AW.kq [2, 8, 9, 10, 14, 15, 16, 17, 18, 113] (h := ?_)
    repeat refine AW.seq ?_
    cases n with
    | zero =>
      have hxq : x = q0 := by omega
      subst hxq
      have t0 := dig_test0 D0 r0 r1 hx2
      refine AW.cond rfl (fun c_ => ?_) (fun c_ => ?_)
      · rw [t0] at c_; cases c_
      repeat refine AW.seq ?_
      refine AW.exit ?_
      repeat (first | refine Kseq.ex ?_ | refine Kloop.ex ?_ | refine Kblock.miss (by decide) ?_)
      refine Kblock.hit ?_
      rfl
    | succ n =>
      have t1 := dig_test1 D0 hx r0 r1 hx2
      obtain ⟨wx, wy, e1, last⟩ := dig_next D0 hYl hx r0 r1 hx2
      refine AW.cond rfl (fun c_ => ?_) (fun c_ => ?_)
      · refine AW.skip ?_
        repeat refine AW.seq ?_
        refine AW.block ?_
        repeat refine AW.seq ?_
        refine AW.reg ?_
        iterate 3 refine AOL.s1 (h := ?_)
        refine AOL.nil ?_
        refine AW.kq [2, 8, 9, 10, 14, 15, 16, 17, 18] (h := ?_)
        repeat refine AW.seq ?_
        refine AW.reg ?_
        iterate 4 refine AOL.s1 (h := ?_)
        refine AOL.nil ?_
        refine AW.kq [2, 8, 9, 10, 14, 15, 16, 17, 18] (h := ?_)
        repeat refine AW.seq ?_
        refine AW.reg ?_
        iterate 2 refine AOL.s1 (h := ?_)
        refine AOL.nil ?_
        refine AW.kq [2, 8, 9, 10, 14, 15, 16, 17, 18, 120] (h := ?_)
        repeat refine AW.seq ?_
        refine AW.cond rfl (fun d_ => ?_) (fun d_ => ?_)
        · have h0 : n = 0 := last (by simpa using d_)
          repeat refine AW.seq ?_
          refine AW.exit ?_
          repeat (first | refine Kseq.ex ?_ | refine Kloop.ex ?_ | refine Kblock.miss (by decide) ?_)
          refine Kblock.hit ?_
          have : x - 1 = q0 := by omega
          rw [this]; rfl
        have d1 : ¬ r + A ≥ 4294967296 := by simpa using d_
        refine AW.skip ?_
        have := D0.y1l
        exact ⟨n, by omega, x - 1, r + A, rfl, by omega, by omega, by omega, e1⟩
      · rw [t1] at c_; cases c_
  rintro t rfl
  repeat refine AW.seq ?_
  refine AW.reg ?_
  iterate 16 refine AOL.s1 (h := ?_)
  refine AOL.nil ?_
  refine AW.kq [6, 7] (h := ?_)
  repeat refine AW.seq ?_
  refine AW.ret ?_
  refine ⟨_, [], rfl, HOk.nil _, ?_⟩
  simp only [one?]
end Go.Proofs.Ytdbpjegocmdplaa.E.M
end
section
/- Products and powers modulo m, the program's and the document's: contracts over E. -/
set_option linter.unusedVariables false
set_option linter.unusedSimpArgs false
set_option maxRecDepth 10000
open Go Go.Proofs.Ytdbpjegocmdplaa.E Go.Proofs
namespace Go.Proofs.Ytdbpjegocmdplaa.E.M
def pm (n : Nat) : Nat → Nat → Nat → Nat
  | 0, _, _ => 1 % n
  | k + 1, b, e => if e = 0 then 1 % n else if e % 2 = 1 then b * pm n k (b * b % n) (e / 2) % n else pm n k (b * b % n) (e / 2)
theorem pm_eq (n k : Nat) : ∀ b e, e < 2 ^ k → pm n k b e = b ^ e % n := by
  induction k with
  | zero => intro b e h; have : e = 0 := by omega
            subst this; simp [pm]
  | succ k ih =>
    intro b e h
    have h2 : e / 2 < 2 ^ k := by rw [Nat.pow_succ] at h; omega
    unfold pm
    split
    · subst_vars; simp
    · have key : (b * b % n) ^ (e / 2) % n = b ^ (2 * (e / 2)) % n := by rw [← Nat.pow_mod, Nat.pow_mul, Nat.pow_two]
      split
      · rw [ih _ _ h2, key, Nat.mul_mod, Nat.mod_mod, ← Nat.mul_mod, ← Nat.pow_succ']; congr 2; omega
      · rw [ih _ _ h2, key]; congr 2; omega
/-- powers -/
def ipow (m a e : Int) : Int := (pm m.toNat 64 a.toNat e.toNat : Nat)
theorem ipow_eq {m a e : Int} (hm : 0 ≤ m) (ha : 0 ≤ a) (he : w64 e) : ipow m a e = a ^ e.toNat % m := by
  unfold ipow
  rw [pm_eq _ _ _ _ (by omega)]
  obtain ⟨m, rfl⟩ := Int.eq_ofNat_of_zero_le hm
  obtain ⟨a, rfl⟩ := Int.eq_ofNat_of_zero_le ha
  simp
theorem pow_emod (a m : Int) (n : Nat) : (a % m) ^ n % m = a ^ n % m := by
  induction n with
  | zero => simp
  | succ n ih => rw [Int.pow_succ, Int.mul_emod, ih, Int.emod_emod_of_dvd _ (Int.dvd_refl m), ← Int.mul_emod, ← Int.pow_succ]
theorem pow_step (O A m : Int) (k : Nat) : O * (A * A % m) ^ k % m = O * A ^ (2 * k) % m := by
  rw [Int.mul_emod, pow_emod, ← Int.mul_emod, Int.pow_mul, show A ^ 2 = A * A by rw [Int.pow_succ, Int.pow_one]]
theorem shr_b {y : Int} {k : Nat} (h : w64 y) (hk : k ≤ 64) : y.fdiv (2 ^ min k IntKind.u64.bits) = y / 2 ^ k ∧ w64 (y / 2 ^ k) := by
  have hp : (0:Int) < 2 ^ k := Int.pow_pos (by decide)
  rw [Nat.min_eq_left (by simp [IntKind.bits]; omega), Int.fdiv_eq_ediv_of_nonneg _ (Int.le_of_lt hp)]
  have h1 := Int.ediv_nonneg h.1 (Int.le_of_lt hp)
  have h2 := Int.ediv_le_self (2 ^ k) h.1
  generalize y / 2 ^ k = z at *
  exact ⟨rfl, h1, by omega⟩
theorem toNat_two {t : Int} (h : 0 ≤ t) : (2 * t).toNat = 2 * t.toNat ∧ (2 * t + 1).toNat = 2 * t.toNat + 1 := by omega
theorem modular_Mul_c {m a b : Int} (hm : md m) (ha : w64 a) (hb : w64 b) : Fn Try.prog 56 [u m, u a, u b] [] (fun r _ => r = u (a * b % m)) := by
  have h0 : ¬ m = 0 := by omega
  have h5 := tmod_nn (m := m) ha.1
  have h6 := tmod_nn (m := m) hb.1
  have h3 := lt_mod hm a
  have h4 := lt_mod hm b
  have p0 := Int.mul_nonneg h3.1 h4.1
  have p1 : a % m * (b % m) < 18446744073709551616 * m := by
    have e1 : a % m * (b % m) ≤ a % m * m := Int.mul_le_mul_of_nonneg_left (by omega) h3.1
    have e2 : a % m * m < 18446744073709551616 * m := Int.mul_lt_mul_of_pos_right (by omega) (by omega)
    omega
  have q0 : 0 ≤ a % m * (b % m) / 18446744073709551616 := Int.ediv_nonneg p0 (by decide)
  have q1 : a % m * (b % m) / 18446744073709551616 < m := Int.ediv_lt_of_lt_mul (by decide) (by rw [Int.mul_comm m]; exact p1)
  have r0 : 0 ≤ a % m * (b % m) % 18446744073709551616 := Int.emod_nonneg _ (by decide)
  have r1 : a % m * (b % m) % 18446744073709551616 < 18446744073709551616 := Int.emod_lt_of_pos _ (by decide)
  have e : (a % m * (b % m) / 18446744073709551616 * 18446744073709551616 + a % m * (b % m) % 18446744073709551616) % m = a * b % m := by
    rw [Int.mul_comm _ 18446744073709551616, Int.mul_ediv_add_emod, ← Int.mul_emod]
  have c1 := math_bits_Mul64_c (a := a % m) (b := b % m) ⟨h3.1, by omega⟩ ⟨h4.1, by omega⟩
  have c2 := math_bits_Div64_c (y := m) q0 q1 r0 r1 (by omega)
  rw [e] at c2
  clear p0 p1
  refine Fn.enter Try.func56 Try.ntmps56 rfl (h := ?_)
  repeat refine AW.seq ?_
  refine AW.reg ?_
  iterate 1 refine AOL.s1 (h := ?_)
  refine AOL.nil ?_
  refine AW.kq [0, 1, 2] (h := ?_)
  repeat refine AW.seq ?_
  refine AW.reg ?_
  iterate 1 refine AOL.s1 (h := ?_)
  refine AOL.callD rfl (modular_no_c hm) (by kernel_rfl) rfl rfl (h := ?_)
  refine AOL.nil ?_
  refine AW.kq [0, 1, 2, 12] (h := ?_)
  repeat refine AW.seq ?_
  refine AW.cond rfl (fun c_ => ?_) (fun c_ => ?_)
  · cases c_
  refine AW.skip ?_
  repeat refine AW.seq ?_
  refine AW.drw 11 [] (by kernel_rfl) (h := ?_)
  refine ADL.dm 6 (h := ?_)
  refine ADL.call rfl (c1) (by kernel_rfl) rfl rfl (h := ?_)
  refine ADL.dm 4 (h := ?_)
  refine ADL.done hmix rfl rfl (hT := ?_)
  iterate 1 refine AOL.s1 (h := ?_)
  refine AOL.nil ?_
  refine AW.kq [0, 7, 8] (h := ?_)
  repeat refine AW.seq ?_
  refine AW.reg ?_
  iterate 3 refine AOL.s1 (h := ?_)
  refine AOL.callD rfl (c2) (by kernel_rfl) rfl rfl (h := ?_)
  iterate 5 refine AOL.s1 (h := ?_)
  refine AOL.nil ?_
  refine AW.kq [10] (h := ?_)
  repeat refine AW.seq ?_
  refine AW.reg ?_
  iterate 2 refine AOL.s1 (h := ?_)
  refine AOL.nil ?_
  refine AW.kq [6] (h := ?_)
  repeat refine AW.seq ?_
  refine AW.ret ?_
  refine ⟨_, [], rfl, HOk.nil _, ?_⟩
  simp only [one?]
theorem modular_Pow_c {m a e : Int} (hm : md m) (ha : w64 a) (he : w64 e) : Fn Try.prog 27 [u m, u a, u e] [] (fun r _ => r = u (ipow m a e)) := by
  have h0 : ¬ m = 0 := by omega
  have h5 := tmod_nn (m := m) ha.1
  refine Fn.enter Try.func27 Try.ntmps27 rfl (h := ?_)
  repeat refine AW.seq ?_
  refine AW.reg ?_
  iterate 1 refine AOL.s1 (h := ?_)
  refine AOL.nil ?_
  refine AW.kq [0, 1, 2] (h := ?_)
  repeat refine AW.seq ?_
  refine AW.reg ?_
  iterate 1 refine AOL.s1 (h := ?_)
  refine AOL.callD rfl (modular_no_c hm) (by kernel_rfl) rfl rfl (h := ?_)
  refine AOL.nil ?_
  refine AW.kq [0, 1, 2, 9] (h := ?_)
  repeat refine AW.seq ?_
  refine AW.cond rfl (fun c_ => ?_) (fun c_ => ?_)
  · cases c_
  refine AW.skip ?_
  repeat refine AW.seq ?_
  refine AW.reg ?_
  iterate 1 refine AOL.s1 (h := ?_)
  refine AOL.nil ?_
  refine AW.kq [0, 1, 2, 7] (h := ?_)
  repeat refine AW.seq ?_
  refine AW.reg ?_
  iterate 4 refine AOL.s1 (h := ?_)
  refine AOL.nil ?_
  refine AW.kq [0, 1, 2, 7] (h := ?_)
  repeat refine AW.seq ?_
  refine AW.block ?_
  repeat refine AW.seq ?_
  refine AW.loopK [0, 1, 2, 7] (fun n s => ∃ A E O : Int, s = ⟨29, [(0, u m), (1, u A), (2, u E), (7, u O)], []⟩ ∧ (0 ≤ A ∧ A < m) ∧ (0 ≤ O ∧ O < m) ∧ w64 E ∧ n = E.toNat ∧ O * A ^ E.toNat % m = a ^ e.toNat % m) e.toNat ?_ ?_
  · exact ⟨_, _, _, rfl, lt_mod hm a, ⟨by decide, by omega⟩, he, rfl, by rw [Int.one_mul, pow_emod]⟩
  rintro n s ⟨A, E, O, rfl, hA, hO, hE, rfl, hinv⟩
  repeat refine AW.seq ?_
  refine AW.reg ?_
  iterate 2 refine AOL.s1 (h := ?_)
  refine AOL.nil ?_
  refine AW.kq [0, 1, 2, 7, 14] (h := ?_)
  repeat refine AW.seq ?_
  refine AW.cond rfl (fun c_ => ?_) (fun c_ => ?_)
  · have hE0 : 0 < E := by simpa using c_
    have a1 := and_one hE.1 hE.2
    have cA := modular_Mul_c hm (a := A) (b := A) ⟨hA.1, by omega⟩ ⟨hA.1, by omega⟩
    have cO := modular_Mul_c hm (a := O) (b := A) ⟨hO.1, by omega⟩ ⟨hA.1, by omega⟩
    have s1 : E.fdiv (2 ^ min (Int.toNat 1) IntKind.u64.bits) = E / 2 := by rw [show Int.toNat 1 = 1 from rfl, (shr_b (k := 1) hE (by decide)).1, Int.pow_one]
    have hAA := lt_mod hm (A * A)
    have hOA := lt_mod hm (O * A)
    refine AW.skip ?_
    repeat refine AW.seq ?_
    refine AW.block ?_
    repeat refine AW.seq ?_
    refine AW.reg ?_
    iterate 3 refine AOL.s1 (h := ?_)
    refine AOL.nil ?_
    refine AW.kq [0, 1, 2, 7, 19] (h := ?_)
    repeat refine AW.seq ?_
    refine AW.midK [0, 1, 2, 7] (fun t => ∃ O', t = ⟨29, [(0, u m), (1, u A), (2, u E), (7, u O')], []⟩ ∧ (0 ≤ O' ∧ O' < m) ∧ O' * (A * A % m) ^ (E / 2).toNat % m = a ^ e.toNat % m) ?_ ?_
    · refine AW.cond rfl (fun d_ => ?_) (fun d_ => ?_)
      · have d1 : E % 2 = 1 := by simpa using d_
        repeat refine AW.seq ?_
        refine AW.reg ?_
        iterate 3 refine AOL.s1 (h := ?_)
        refine AOL.callD rfl (cO) (by kernel_rfl) rfl rfl (h := ?_)
        iterate 1 refine AOL.s1 (h := ?_)
        refine AOL.nil ?_
        refine ⟨_, rfl, hOA, ?_⟩
        rw [← hinv, pow_step, Int.mul_emod, Int.emod_emod_of_dvd _ (Int.dvd_refl m), ← Int.mul_emod, Int.mul_assoc, ← Int.pow_succ']
        congr 3; omega
      · have d1 : ¬ E % 2 = 1 := by simpa using d_
        refine AW.skip ?_
        refine ⟨_, rfl, hO, ?_⟩
        rw [← hinv, pow_step]
        congr 3; omega
    rintro t ⟨O', rfl, hO', hi'⟩
    repeat refine AW.seq ?_
    refine AW.reg ?_
    iterate 3 refine AOL.s1 (h := ?_)
    refine AOL.callD rfl (cA) (by kernel_rfl) rfl rfl (h := ?_)
    iterate 1 refine AOL.s1 (h := ?_)
    refine AOL.nil ?_
    repeat refine AW.seq ?_
    refine AW.reg ?_
    iterate 3 refine AOL.s1 (h := ?_)
    refine AOL.nil ?_
    exact ⟨(E / 2).toNat, by omega, _, _, _, rfl, hAA, hO', by omega, rfl, hi'⟩
  have hE0 : E = 0 := by simp at c_; omega
  subst hE0
  repeat refine AW.seq ?_
  refine AW.exit ?_
  repeat (first | refine Kseq.ex ?_ | refine Kloop.ex ?_ | refine Kblock.miss (by decide) ?_)
  refine Kblock.hit ?_
  refine AW.kq [7] (h := ?_)
  repeat refine AW.seq ?_
  refine AW.reg ?_
  iterate 2 refine AOL.s1 (h := ?_)
  refine AOL.nil ?_
  refine AW.kq [6] (h := ?_)
  repeat refine AW.seq ?_
  refine AW.ret ?_
  refine ⟨_, [], rfl, HOk.nil _, ?_⟩
  have : O = a ^ e.toNat % m := by rw [← hinv]; simp [Int.emod_eq_of_lt hO.1 hO.2]
  simp only [one?]
  rw [this, ipow_eq (by omega) ha.1 he]
end Go.Proofs.Ytdbpjegocmdplaa.E.M
end
section
/- The inverse modulo a prime, by Euclid, is the power that Fermat tells: a contract over E. -/
set_option linter.unusedVariables false
set_option linter.unusedSimpArgs false
set_option maxRecDepth 10000
open Go Go.Proofs.Ytdbpjegocmdplaa.E Go.Proofs
namespace Go.Proofs.Ytdbpjegocmdplaa.E.M
/-- one of the three primes -/
def prm (m : Int) : Prop := m = 1152921505151057923 ∨ m = 288230376287764481 ∨ m = 72057593894066549
theorem prm_prime {m : Int} (h : prm m) : Obol.IsPrime m.toNat ∧ md m ∧ (m.toNat : Int) = m := by
  rcases h with h | h | h <;> subst h
  · exact ⟨Obol.prime_P, by decide, rfl⟩
  · exact ⟨Obol.prime_R, by decide, rfl⟩
  · exact ⟨Obol.prime_S, by decide, rfl⟩
theorem sub_mul_emod (u t a m : Int) : (u - t) % m * a % m = (u * a - t * a) % m := by
  rw [Int.mul_emod, Int.emod_emod_of_dvd _ (Int.dvd_refl m), ← Int.mul_emod, Int.sub_mul]

theorem fermat_int {m a : Int} (h : prm m) (ha : a % m ≠ 0) (h0 : 0 ≤ a) : a ^ (m.toNat - 1) % m = 1 := by
  obtain ⟨hp, hm, e⟩ := prm_prime h
  obtain ⟨n, rfl⟩ := Int.eq_ofNat_of_zero_le h0
  have := Obol.fermat hp (a := n) (by
    intro hd
    apply ha
    rw [← e]
    exact_mod_cast Nat.mod_eq_zero_of_dvd hd)
  rw [← e]
  exact_mod_cast this

theorem gcd_prime {m a : Int} (h : prm m) (h0 : 0 ≤ a) (h1 : a < m) : (Int.gcd m a = 1 ↔ a ≠ 0) := by
  obtain ⟨hp, hm, e⟩ := prm_prime h
  have hg : Int.gcd m a = Nat.gcd m.toNat a.toNat := by
    obtain ⟨n, rfl⟩ := Int.eq_ofNat_of_zero_le h0
    have : m = ((m.toNat : Nat) : Int) := e.symm
    rw [this]; rfl
  rw [hg]
  constructor
  · intro hc ha
    subst ha
    have := hp.1
    simp at hc
    omega
  · intro ha
    exact Obol.prime_coprime hp (fun hd => by have := Nat.le_of_dvd (by omega) hd; omega)

def inv (m a : Int) : Int := ipow m a (m - 2)

theorem inv_mul {m a : Int} (h : prm m) (h0 : w64 a) (ha : a % m ≠ 0) : inv m a * a % m = 1 ∧ 0 ≤ inv m a ∧ inv m a < m := by
  obtain ⟨hp, hm, e⟩ := prm_prime h
  unfold inv
  rw [ipow_eq (by omega) h0.1 (by omega)]
  refine ⟨?_, Int.emod_nonneg _ (by omega), Int.emod_lt_of_pos _ (by omega)⟩
  have h1 := fermat_int h ha h0.1
  have hp2 := hp.1
  rw [Int.mul_emod, Int.emod_emod_of_dvd _ (Int.dvd_refl m), ← Int.mul_emod, ← Int.pow_succ, show (m - 2).toNat.succ = m.toNat - 1 by omega]
  exact h1

theorem inv_unique {m a U : Int} (h : prm m) (h0 : w64 a) (ha : a % m ≠ 0) (U0 : 0 ≤ U) (U1 : U < m) (hU : U * a % m = 1) : U = inv m a := by
  obtain ⟨hi, i0, i1⟩ := inv_mul h h0 ha
  have e : U * (inv m a * a) % m = U := by rw [Int.mul_emod, hi, Int.mul_one, Int.emod_emod_of_dvd _ (Int.dvd_refl m)]; exact Int.emod_eq_of_lt U0 U1
  have e2 : U * (inv m a * a) % m = inv m a := by
    rw [Int.mul_left_comm, Int.mul_emod, hU, Int.mul_one, Int.emod_emod_of_dvd _ (Int.dvd_refl m)]; exact Int.emod_eq_of_lt i0 i1
  rw [← e, e2]


abbrev er (n : Int) : AV := .val (.iface 52 (.int .i64 n))
abbrev nil_ : AV := .val .nilIface
theorem tCode : tIface Try.prog 52 = some false := rfl
set_option maxHeartbeats 1000000 in
theorem modular_Inv_c {m a : Int} (h : prm m) (ha : w64 a) : Fn Try.prog 67 [u m, u a] [] (fun r _ => r = .tup (if a % m = 0 then [u 0, er 2] else [u (inv m a), nil_])) := by
  obtain ⟨hp, hm, e⟩ := prm_prime h
  have m0 : ¬ m = 0 := by omega
  have h5 := tmod_nn (m := m) ha.1
  have y0 := Int.emod_nonneg a (b := m) (by omega)
  have y1 := Int.emod_lt_of_pos a (b := m) (by omega)
  have hg := gcd_prime h y0 y1
  have tCode := tCode
  refine Fn.enter Try.func67 Try.ntmps67 rfl (h := ?_)
  repeat refine AW.seq ?_
  refine AW.reg ?_
  iterate 2 refine AOL.s1 (h := ?_)
  refine AOL.nil ?_
  refine AW.kq [0, 1] (h := ?_)
  repeat refine AW.seq ?_
  refine AW.reg ?_
  iterate 1 refine AOL.s1 (h := ?_)
  refine AOL.callD rfl (modular_no_c hm) (by kernel_rfl) rfl rfl (h := ?_)
  refine AOL.nil ?_
  refine AW.kq [0, 1, 12] (h := ?_)
  repeat refine AW.seq ?_
  refine AW.cond rfl (fun c_ => ?_) (fun c_ => ?_)
  · cases c_
  refine AW.skip ?_
  repeat refine AW.seq ?_
  refine AW.drw 5 [] (by kernel_rfl) (h := ?_)
  iterate 5 refine ADL.dm 1 (h := ?_)
  refine ADL.done hmix rfl rfl (hT := ?_)
  iterate 3 refine AOL.s1 (h := ?_)
  refine AOL.nil ?_
  refine AW.kq [0, 6, 7, 8, 9] (h := ?_)
  repeat refine AW.seq ?_
  refine AW.block ?_
  repeat refine AW.seq ?_
  refine AW.loopK [0, 6, 7, 8, 9] (fun n s => ∃ x y U V : Int, s = ⟨39, [(0, u m), (6, u x), (7, u y), (8, u U), (9, u V)], []⟩ ∧ n = y.toNat ∧ w64 x ∧ w64 y ∧ (0 ≤ U ∧ U < m) ∧ (0 ≤ V ∧ V < m) ∧ id (U * a % m = x % m) ∧ id (V * a % m = y % m) ∧ id (Int.gcd x y = Int.gcd m (a % m))) (a % m).toNat ?_ ?_
  · exact ⟨_, _, _, _, rfl, rfl, ⟨by omega, by omega⟩, ⟨y0, by omega⟩, ⟨by omega, by omega⟩, ⟨by omega, by omega⟩, by show 0 * a % m = m % m; rw [Int.zero_mul, Int.emod_self]; rfl, by show 1 * a % m = a % m % m; rw [Int.one_mul, Int.emod_emod_of_dvd _ (Int.dvd_refl m)], rfl⟩
  rintro n s ⟨x, y, U, V, rfl, rfl, hx, hy, hU, hV, eU, eV, eG⟩
  repeat refine AW.seq ?_
  refine AW.reg ?_
  iterate 2 refine AOL.s1 (h := ?_)
  refine AOL.nil ?_
  refine AW.kq [0, 6, 7, 8, 9, 19] (h := ?_)
  repeat refine AW.seq ?_
  refine AW.cond rfl (fun c_ => ?_) (fun c_ => ?_)
  · have hy0 : 0 < y := by simpa using c_
    have yn : ¬ y = 0 := by omega
    have q0 : 0 ≤ x / y := Int.ediv_nonneg hx.1 hy.1
    have q1 : x / y ≤ x := Int.ediv_le_self y hx.1
    have r0 := Int.emod_nonneg x (b := y) (by omega)
    have r1 := Int.emod_lt_of_pos x (b := y) (by omega)
    have hM := modular_Mul_c hm (a := x / y) (b := V) ⟨q0, by omega⟩ ⟨hV.1, by omega⟩
    have t := lt_mod hm (x / y * V)
    have hS := modular_Sub_c hm (a := U) (b := x / y * V % m) ⟨hU.1, by omega⟩ ⟨t.1, by omega⟩
    have d1 : IntKind.u64.wrap (x.tdiv y) = x / y := by rw [Int.tdiv_eq_ediv_of_nonneg hx.1, wrapU_o q0 (by omega)]
    have d2 : x.tmod y = x % y := Int.tmod_eq_emod_of_nonneg hx.1
    have eV' : id (id ((U - x / y * V % m) % m * a % m = x % y % m)) := by
      show (U - x / y * V % m) % m * a % m = x % y % m
      have e1 : x / y * V % m * a % m = x / y * (V * a) % m := by rw [Int.mul_emod, Int.emod_emod_of_dvd _ (Int.dvd_refl m), ← Int.mul_emod, Int.mul_assoc]
      have e2 : x / y * (V * a) % m = x / y * y % m := by rw [Int.mul_emod, show V * a % m = y % m from eV, ← Int.mul_emod]
      rw [sub_mul_emod, Int.sub_emod, show U * a % m = x % m from eU, e1, e2, ← Int.sub_emod]
      congr 1
      have := Int.mul_ediv_add_emod x y
      rw [Int.mul_comm] at this
      omega
    have eG' : id (id (Int.gcd y (x % y) = Int.gcd m (a % m))) := by
      show Int.gcd y (x % y) = Int.gcd m (a % m)
      rw [← show Int.gcd x y = Int.gcd m (a % m) from eG]
      have e := Int.mul_ediv_add_emod x y
      have : Int.gcd y (y * (x / y) + x % y) = Int.gcd y (x % y) := by
        rw [Int.add_comm]; simp
      rw [e] at this
      rw [← this, Int.gcd_comm]
    have s1 := lt_mod hm (U - x / y * V % m)
    refine AW.skip ?_
    repeat refine AW.seq ?_
    refine AW.block ?_
    repeat refine AW.seq ?_
    refine AW.reg ?_
    iterate 4 refine AOL.s1 (h := ?_)
    refine AOL.nil ?_
    refine AW.kq [0, 6, 7, 8, 9, 10] (h := ?_)
    repeat refine AW.seq ?_
    refine AW.drw 5 [] (by kernel_rfl) (h := ?_)
    iterate 1 refine ADL.dm 1 (h := ?_)
    refine ADL.l1 [6] rfl (h := ?_)
    iterate 3 refine ADL.dm 1 (h := ?_)
    refine ADL.done hmix rfl rfl (hT := ?_)
    iterate 1 refine AOL.s1 (h := ?_)
    refine AOL.nil ?_
    refine AW.kq [0, 6, 7, 8, 9, 10] (h := ?_)
    repeat refine AW.seq ?_
    refine AW.reg ?_
    iterate 6 refine AOL.s1 (h := ?_)
    refine AOL.callD rfl (hM) (by kernel_rfl) rfl rfl (h := ?_)
    refine AOL.callD rfl (hS) (by kernel_rfl) rfl rfl (h := ?_)
    iterate 2 refine AOL.s1 (h := ?_)
    refine AOL.nil ?_
    exact ⟨(x % y).toNat, by omega, _, _, _, _, rfl, rfl, hy, ⟨r0, by omega⟩, hV, s1, eV, eV', eG'⟩
  have hy0 : y = 0 := by simp at c_; omega
  subst hy0
  have eG : x.natAbs = Int.gcd m (a % m) := by rw [← show Int.gcd x 0 = Int.gcd m (a % m) from eG, Int.gcd_zero_right]
  have eU : U * a % m = x % m := eU
  repeat refine AW.seq ?_
  refine AW.exit ?_
  repeat (first | refine Kseq.ex ?_ | refine Kloop.ex ?_ | refine Kblock.miss (by decide) ?_)
  refine Kblock.hit ?_
  refine AW.kq [6, 8] (h := ?_)
  by_cases hz : a % m = 0
  · have hx1 : ¬ x = 1 := by
      intro hx1
      subst hx1
      exact hg.1 (by rw [← eG]; rfl) hz
    clear eG eU
    have x1 : (x != 1) = true := by simpa using hx1
    repeat refine AW.seq ?_
    refine AW.reg ?_
    iterate 2 refine AOL.s1 (h := ?_)
    refine AOL.nil ?_
    refine AW.kq [8, 36] (h := ?_)
    repeat refine AW.seq ?_
    refine AW.cond rfl (fun d_ => ?_) (fun d_ => ?_)
    · repeat refine AW.seq ?_
      refine AW.reg ?_
      iterate 3 refine AOL.s1 (h := ?_)
      refine AOL.nil ?_
      refine AW.kq [4, 5] (h := ?_)
      repeat refine AW.seq ?_
      refine AW.ret ?_
      refine ⟨_, [], rfl, HOk.nil _, ?_⟩
      simp only [one?, if_pos hz]
    · cases d_
  have hx1 : x = 1 := by have := hg.2 hz; omega
  subst hx1
  have hUu : U = inv m a := inv_unique h ha hz hU.1 hU.2 (by rw [eU]; exact Int.emod_eq_of_lt (by omega) (by omega))
  clear eG eU
  repeat refine AW.seq ?_
  refine AW.reg ?_
  iterate 2 refine AOL.s1 (h := ?_)
  refine AOL.nil ?_
  refine AW.kq [8, 36] (h := ?_)
  repeat refine AW.seq ?_
  refine AW.cond rfl (fun d_ => ?_) (fun d_ => ?_)
  · cases d_
  refine AW.skip ?_
  repeat refine AW.seq ?_
  refine AW.reg ?_
  iterate 3 refine AOL.s1 (h := ?_)
  refine AOL.nil ?_
  refine AW.kq [4, 5] (h := ?_)
  repeat refine AW.seq ?_
  refine AW.ret ?_
  refine ⟨_, [], rfl, HOk.nil _, ?_⟩
  simp only [one?, hUu, if_neg hz]
end Go.Proofs.Ytdbpjegocmdplaa.E.M
end
section
/- The curve's points: the field, and whether something is a point; contracts over E. -/
set_option linter.unusedVariables false
set_option linter.unusedSimpArgs false
set_option maxRecDepth 10000
open Go Go.Proofs.Ytdbpjegocmdplaa.E Go.Proofs
namespace Go.Proofs.Ytdbpjegocmdplaa.E.M
abbrev FP := Fin 1152921505151057923
def K (a : Int) : FP := Obol.of 1152921505151057923 a
theorem K_add (a b : Int) : K (a + b) = K a + K b := Obol.of_add a b
theorem K_sub (a b : Int) : K (a - b) = K a - K b := Obol.of_sub a b
theorem K_mul (a b : Int) : K (a * b) = K a * K b := Obol.of_mul a b
theorem K_neg (a : Int) : K (-a) = - K a := Obol.of_neg a
theorem K_emod (a : Int) : K (a % 1152921505151057923) = K a := Obol.of_emod a
theorem K_0 : K 0 = 0 := Obol.of_zero
theorem K_1 : K 1 = 1 := Obol.of_one
theorem K_2 : K 2 = 2 := Obol.of_two
theorem K_3 : K 3 = 3 := Obol.of_three
theorem K_4 : K 4 = 4 := Obol.of_four
theorem K_8 : K 8 = 8 := Obol.of_eight
theorem emodP {a b : Int} (h : K a = K b) : a % 1152921505151057923 = b % 1152921505151057923 := Obol.emod_of h
theorem K_iff {a b : Int} : K a = K b ↔ a % 1152921505151057923 = b % 1152921505151057923 := Obol.of_eq

/-- a number below P -/
def lt (a : Int) : Prop := 0 ≤ a ∧ a < 1152921505151057923
theorem lt.w {a : Int} (h : lt a) : w64 a := ⟨h.1, by have := h.2; omega⟩
theorem ltm (a : Int) : lt (a % 1152921505151057923) := ⟨Int.emod_nonneg _ (by decide), Int.emod_lt_of_pos _ (by decide)⟩
theorem lt.self {a : Int} (h : lt a) : a % 1152921505151057923 = a := Int.emod_eq_of_lt h.1 h.2
theorem K_inj {a b : Int} (ha : lt a) (hb : lt b) (h : K a = K b) : a = b := Obol.of_inj ha.1 ha.2 hb.1 hb.2 h
theorem mdP : md 1152921505151057923 := by decide
theorem prmP : prm 1152921505151057923 := Or.inl rfl
theorem K_zero_iff {a : Int} (h : lt a) : K a = 0 ↔ a = 0 := by
  constructor
  · intro e; exact K_inj h ⟨by omega, by decide⟩ (e.trans K_0.symm)
  · intro e; rw [e, K_0]

theorem K_inv {d : Int} (h : lt d) (h0 : d ≠ 0) : K (inv 1152921505151057923 d) * K d = 1 ∧ lt (inv 1152921505151057923 d) := by
  obtain ⟨h1, h2, h3⟩ := inv_mul prmP h.w (by rw [h.self]; exact h0)
  refine ⟨?_, h2, h3⟩
  rw [← K_mul, ← K_emod, h1, K_1]

def isPt (b : Bool) (x y : Int) : Bool :=
  if b = true then (x == 0 && y == 0) else (decide (0 ≤ x ∧ x < 1152921505151057923) && decide (0 ≤ y ∧ y < 1152921505151057923) && (y * y % 1152921505151057923 == (x * x * x + x) % 1152921505151057923))

/-- a point -/
def Pt (t : Bool × Int × Int) : Prop := isPt t.1 t.2.1 t.2.2 = true

theorem Pt.inf {x y : Int} (h : Pt (true, x, y)) : x = 0 ∧ y = 0 := by
  unfold Pt isPt at h; rw [if_pos rfl] at h; simpa using h
theorem Pt.fin {x y : Int} (h : Pt (false, x, y)) : lt x ∧ lt y ∧ K y * K y = K x * K x * K x + K x := by
  unfold Pt isPt at h; simp only [Bool.false_eq_true, if_false] at h
  simp only [Bool.and_eq_true, decide_eq_true_eq, beq_iff_eq] at h
  obtain ⟨⟨h1, h2⟩, h3⟩ := h
  refine ⟨h1, h2, ?_⟩
  have := K_iff.2 h3
  rw [K_mul, K_add, K_mul, K_mul] at this; exact this
theorem Pt.mk {x y : Int} (hx : lt x) (hy : lt y) (h : K y * K y = K x * K x * K x + K x) : Pt (false, x, y) := by
  unfold Pt isPt; simp only [Bool.false_eq_true, if_false]
  simp only [Bool.and_eq_true, decide_eq_true_eq, beq_iff_eq]
  refine ⟨⟨hx, hy⟩, ?_⟩
  apply K_iff.1
  rw [K_mul, K_add, K_mul, K_mul]; exact h
theorem Pt.none : Pt (true, 0, 0) := rfl
theorem Pt.wx {t : Bool × Int × Int} (h : Pt t) : lt t.2.1 ∧ lt t.2.2 := by
  obtain ⟨b, x, y⟩ := t
  cases b with
  | true => obtain ⟨rfl, rfl⟩ := h.inf; exact ⟨⟨by decide, by decide⟩, ⟨by decide, by decide⟩⟩
  | false => exact ⟨h.fin.1, h.fin.2.1⟩

def sureP (b : Bool) (x y : Int) : Bool × Int × Int := if isPt b x y = true then (b, x, y) else (true, 0, 0)

theorem sureP_pt (b : Bool) (x y : Int) : Pt (sureP b x y) := by
  unfold sureP; split
  · assumption
  · exact Pt.none

def lam (a b : Bool × Int × Int) : Int :=
  if a.2.1 = b.2.1 then (3 * (a.2.1 * a.2.1) + 1) * inv 1152921505151057923 ((a.2.2 + a.2.2) % 1152921505151057923) % 1152921505151057923
  else (b.2.2 - a.2.2) * inv 1152921505151057923 ((b.2.1 - a.2.1) % 1152921505151057923) % 1152921505151057923

def lineP (l : Int) (a b : Bool × Int × Int) : Bool × Int × Int :=
  (false, (l * l - a.2.1 - b.2.1) % 1152921505151057923, (l * (a.2.1 - (l * l - a.2.1 - b.2.1) % 1152921505151057923) - a.2.2) % 1152921505151057923)

def sumP (a b : Bool × Int × Int) : Bool × Int × Int :=
  if a.1 = true then b else if b.1 = true then a else if a.2.1 = b.2.1 ∧ (a.2.2 + b.2.2) % 1152921505151057923 = 0 then (true, 0, 0) else lineP (lam a b) a b

/-- two points that are no wall: what stands below the fraction isn't 0 -/
theorem down_ne {ax ay bx bY : Int} (ha : Pt (false, ax, ay)) (hb : Pt (false, bx, bY)) (hw : ¬ (ax = bx ∧ (ay + bY) % 1152921505151057923 = 0)) :
    (if ax = bx then (ay + ay) % 1152921505151057923 else (bx - ax) % 1152921505151057923) ≠ 0 := by
  obtain ⟨ax1, ay1, ac⟩ := ha.fin
  obtain ⟨bx1, by1, bc⟩ := hb.fin
  unfold lt at ax1 ay1 bx1 by1
  split
  · rename_i e
    subst e
    rcases Obol.y_cases Obol.prime_P ac bc with h | h
    · have := K_inj ay1 by1 h
      subst this
      intro h0; exact hw ⟨rfl, h0⟩
    · exfalso; apply hw
      refine ⟨rfl, ?_⟩
      have : K (ay + bY) = K 0 := by rw [K_add, K_0]; exact h
      have := K_iff.1 this
      rw [this]; rfl
  · rename_i e
    omega

theorem line_K {ax ay bx bY l : Int} : K (lineP l (false, ax, ay) (false, bx, bY)).2.1 = K l * K l - K ax - K bx ∧
    K (lineP l (false, ax, ay) (false, bx, bY)).2.2 = K l * (K ax - (K l * K l - K ax - K bx)) - K ay := by
  unfold lineP
  simp only [K_emod, K_sub, K_mul]
  exact ⟨trivial, trivial⟩

theorem lam_K {ax ay bx bY : Int} (ha : Pt (false, ax, ay)) (hb : Pt (false, bx, bY)) (hw : ¬ (ax = bx ∧ (ay + bY) % 1152921505151057923 = 0)) :
    (ax = bx ∧ ay = bY ∧ ∃ i, i * (K ay + K ay) = 1 ∧ K (lam (false, ax, ay) (false, bx, bY)) = (3 * (K ax * K ax) + 1) * i) ∨
    (ax ≠ bx ∧ ∃ i, i * (K bx - K ax) = 1 ∧ K (lam (false, ax, ay) (false, bx, bY)) = (K bY - K ay) * i) := by
  have hd := down_ne ha hb hw
  unfold lam
  simp only
  by_cases e : ax = bx
  · left
    rw [if_pos e] at hd ⊢
    refine ⟨e, ?_, K (inv 1152921505151057923 ((ay + ay) % 1152921505151057923)), ?_, ?_⟩
    · subst e
      rcases Obol.y_cases Obol.prime_P ha.fin.2.2 hb.fin.2.2 with h | h
      · exact K_inj ha.fin.2.1 hb.fin.2.1 h
      · exfalso; apply hw
        refine ⟨rfl, ?_⟩
        have : K (ay + bY) = K 0 := by rw [K_add, K_0]; exact h
        rw [K_iff.1 this]; rfl
    · have := (K_inv (ltm _) hd).1
      rw [K_emod (ay + ay), K_add] at this; exact this
    · simp only [K_emod, K_mul, K_add, K_3, K_1]
  · right
    rw [if_neg e] at hd ⊢
    refine ⟨e, K (inv 1152921505151057923 ((bx - ax) % 1152921505151057923)), ?_, ?_⟩
    · have := (K_inv (ltm _) hd).1
      rw [K_emod (bx - ax), K_sub] at this; exact this
    · simp only [K_emod, K_mul, K_sub]

theorem sumP_pt {a b : Bool × Int × Int} (ha : Pt a) (hb : Pt b) : Pt (sumP a b) := by
  obtain ⟨a0, ax, ay⟩ := a
  obtain ⟨b0, bx, bY⟩ := b
  unfold sumP
  cases a0 with
  | true => exact hb
  | false =>
    cases b0 with
    | true => exact ha
    | false =>
      simp only [Bool.false_eq_true, if_false]
      by_cases hw : ax = bx ∧ (ay + bY) % 1152921505151057923 = 0
      · rw [if_pos hw]; exact Pt.none
      · rw [if_neg hw]
        obtain ⟨h1, h2⟩ := line_K (ax := ax) (ay := ay) (bx := bx) (bY := bY) (l := lam (false, ax, ay) (false, bx, bY))
        refine Pt.mk (ltm _) (ltm _) ?_
        have h1' : K ((lam (false, ax, ay) (false, bx, bY) * lam (false, ax, ay) (false, bx, bY) - ax - bx) % 1152921505151057923) = _ := h1
        have h2' : K ((lam (false, ax, ay) (false, bx, bY) * (ax - (lam (false, ax, ay) (false, bx, bY) * lam (false, ax, ay) (false, bx, bY) - ax - bx) % 1152921505151057923) - ay) % 1152921505151057923) = _ := h2
        rw [h1', h2']
        rcases lam_K ha hb hw with ⟨e, e', i, hi, hl⟩ | ⟨e, i, hi, hl⟩
        · subst e e'
          exact Obol.tangent_on _ _ _ i ha.fin.2.2 hi hl
        · exact Obol.chord_on _ _ _ _ _ i ha.fin.2.2 hb.fin.2.2 hi hl

theorem sumP_fin (ax ay bx bY : Int) : sumP (false, ax, ay) (false, bx, bY) = if ax = bx ∧ (ay + bY) % 1152921505151057923 = 0 then (true, 0, 0) else lineP (lam (false, ax, ay) (false, bx, bY)) (false, ax, ay) (false, bx, bY) := rfl

/-! ### multiples -/

def stepT (a : Bool × Int × Int) (k : Int) (i : Nat) (o : Bool × Int × Int) : Bool × Int × Int :=
  if k / 2 ^ i % 2 = 1 then sumP (sumP o o) a else sumP o o
/-- the bits below the i-th, from the highest one on -/
def tms (a : Bool × Int × Int) (k : Int) : Nat → Bool × Int × Int → Bool × Int × Int
  | 0, o => o
  | i + 1, o => tms a k i (stepT a k i o)
theorem tms_succ (a : Bool × Int × Int) (k : Int) (i : Nat) (o : Bool × Int × Int) : tms a k (i + 1) o = tms a k i (stepT a k i o) := rfl
def timesP (a : Bool × Int × Int) (k : Int) : Bool × Int × Int := tms a k 64 (true, 0, 0)

theorem stepT_pt {a : Bool × Int × Int} (ha : Pt a) (k : Int) (i : Nat) {o : Bool × Int × Int} (ho : Pt o) : Pt (stepT a k i o) := by
  unfold stepT; split
  · exact sumP_pt (sumP_pt ho ho) ha
  · exact sumP_pt ho ho
theorem tms_pt {a : Bool × Int × Int} (ha : Pt a) (k : Int) : ∀ (i : Nat) {o : Bool × Int × Int}, Pt o → Pt (tms a k i o)
  | 0, _, ho => ho
  | i + 1, _, ho => tms_pt ha k i (stepT_pt ha k i ho)
theorem timesP_pt {a : Bool × Int × Int} (ha : Pt a) (k : Int) : Pt (timesP a k) := tms_pt ha k 64 Pt.none


abbrev TF : Prop := tSz Try.prog 3 = some 1 ∧
    tAgg Try.prog 3 = some false ∧
    tBytes Try.prog 3 = some 8 ∧
    tZero Try.prog 3 = some [(.int .i64 0)] ∧
    tSlice Try.prog 3 = none ∧
    tInt Try.prog 3 = some .i64 ∧
    Try.prog.underlying 3 = some (.int .i64) ∧
    tIface Try.prog 3 = some false ∧
    tCls Try.prog 3 = .other ∧
    tSz Try.prog 4 = some 1 ∧
    tAgg Try.prog 4 = some false ∧
    tBytes Try.prog 4 = some 1 ∧
    tZero Try.prog 4 = some [(.bool false)] ∧
    tSlice Try.prog 4 = none ∧
    tIface Try.prog 4 = some false ∧
    tCls Try.prog 4 = .bool ∧
    tSz Try.prog 25 = some 1 ∧
    tAgg Try.prog 25 = some false ∧
    tBytes Try.prog 25 = some 8 ∧
    tZero Try.prog 25 = some [(.int .u64 0)] ∧
    tSlice Try.prog 25 = none ∧
    tInt Try.prog 25 = some .u64 ∧
    Try.prog.underlying 25 = some (.int .u64) ∧
    tIface Try.prog 25 = some false ∧
    tCls Try.prog 25 = .other ∧
    tSz Try.prog 39 = some 1 ∧
    tAgg Try.prog 39 = some false ∧
    tBytes Try.prog 39 = some 16 ∧
    tZero Try.prog 39 = some [.nilIface] ∧
    tSlice Try.prog 39 = none ∧
    tIface Try.prog 39 = some true ∧
    tCls Try.prog 39 = .iface ∧
    tSz Try.prog 52 = some 1 ∧
    tAgg Try.prog 52 = some false ∧
    tBytes Try.prog 52 = some 8 ∧
    tZero Try.prog 52 = some [(.int .i64 0)] ∧
    tSlice Try.prog 52 = none ∧
    tInt Try.prog 52 = some .i64 ∧
    Try.prog.underlying 52 = some (.int .i64) ∧
    tIface Try.prog 52 = some false ∧
    tCls Try.prog 52 = .other ∧
    tSz Try.prog 32 = some 3 ∧
    tAgg Try.prog 32 = some true ∧
    tBytes Try.prog 32 = some 24 ∧
    tZero Try.prog 32 = some [(.bool false), (.int .u64 0), (.int .u64 0)] ∧
    tSlice Try.prog 32 = none ∧
    tIface Try.prog 32 = some false ∧
    tCls Try.prog 32 = .other ∧
    tField Try.prog 32 0 = some (0, 4) ∧
    tField Try.prog 32 1 = some (1, 25) ∧
    tField Try.prog 32 2 = some (2, 25) ∧
    (∀ ps, aBuild Try.prog 32 ps = (aFill ([(0, 1), (1, 1), (2, 1)][·]?) [.val (.bool false), .val (.int .u64 0), .val (.int .u64 0)] ps).map .agg)
theorem tf : TF :=
  ⟨rfl, rfl, rfl, rfl, rfl, rfl, rfl, rfl, rfl, rfl, rfl, rfl, rfl, rfl, rfl, rfl, rfl, rfl, rfl, rfl, rfl, rfl, rfl, rfl, rfl, rfl, rfl, rfl, rfl, rfl, rfl, rfl, rfl, rfl, rfl, rfl, rfl, rfl, rfl, rfl, rfl, rfl, rfl, rfl, rfl, rfl, rfl, rfl, rfl, rfl, rfl, fun _ => rfl⟩

abbrev pt (t : Bool × Int × Int) : AV := .agg [bo t.1, u t.2.1, u t.2.2]
theorem curve_mul_c {a b : Int} (ha : w64 a) (hb : w64 b) : Fn Try.prog 69 [u a, u b] [] (fun r _ => r = u (a * b % 1152921505151057923)) := by
  refine Fn.enter Try.func69 Try.ntmps69 rfl (h := ?_)
  repeat refine AW.seq ?_
  refine AW.reg ?_
  iterate 1 refine AOL.s1 (h := ?_)
  refine AOL.nil ?_
  refine AW.kq [0, 1] (h := ?_)
  repeat refine AW.seq ?_
  refine AW.reg ?_
  iterate 2 refine AOL.s1 (h := ?_)
  refine AOL.callD rfl (modular_Mul_c mdP ha hb) (by kernel_rfl) rfl rfl (h := ?_)
  iterate 1 refine AOL.s1 (h := ?_)
  refine AOL.nil ?_
  refine AW.kq [4] (h := ?_)
  repeat refine AW.seq ?_
  refine AW.ret ?_
  refine ⟨_, [], rfl, HOk.nil _, ?_⟩
  simp only [one?]
theorem curve_sub_c {a b : Int} (ha : w64 a) (hb : w64 b) : Fn Try.prog 70 [u a, u b] [] (fun r _ => r = u ((a - b) % 1152921505151057923)) := by
  refine Fn.enter Try.func70 Try.ntmps70 rfl (h := ?_)
  repeat refine AW.seq ?_
  refine AW.reg ?_
  iterate 1 refine AOL.s1 (h := ?_)
  refine AOL.nil ?_
  refine AW.kq [0, 1] (h := ?_)
  repeat refine AW.seq ?_
  refine AW.reg ?_
  iterate 2 refine AOL.s1 (h := ?_)
  refine AOL.callD rfl (modular_Sub_c mdP ha hb) (by kernel_rfl) rfl rfl (h := ?_)
  iterate 1 refine AOL.s1 (h := ?_)
  refine AOL.nil ?_
  refine AW.kq [4] (h := ?_)
  repeat refine AW.seq ?_
  refine AW.ret ?_
  refine ⟨_, [], rfl, HOk.nil _, ?_⟩
  simp only [one?]
theorem curve_inf_c : Fn Try.prog 68 [] [] (fun r _ => r = pt (true, 0, 0)) := by
  refine Fn.enter Try.func68 Try.ntmps68 rfl (h := ?_)
  have tf := tf
  repeat refine AW.seq ?_
  refine AW.reg ?_
  iterate 1 refine AOL.s1 (h := ?_)
  refine AOL.nil ?_
  refine AW.kq [0] (h := ?_)
  repeat refine AW.seq ?_
  refine AW.reg ?_
  iterate 2 refine AOL.s1 (h := ?_)
  refine AOL.nil ?_
  refine AW.kq [0] (h := ?_)
  repeat refine AW.seq ?_
  refine AW.ret ?_
  refine ⟨_, [], rfl, HOk.nil _, ?_⟩
  rfl
theorem curve_Gen_c : Fn Try.prog 54 [] [] (fun r _ => r = pt (false, 247390119040843104, 830327839767444578)) := by
  refine Fn.enter Try.func54 Try.ntmps54 rfl (h := ?_)
  have tf := tf
  repeat refine AW.seq ?_
  refine AW.reg ?_
  iterate 1 refine AOL.s1 (h := ?_)
  refine AOL.nil ?_
  refine AW.kq [0] (h := ?_)
  repeat refine AW.seq ?_
  refine AW.reg ?_
  iterate 2 refine AOL.s1 (h := ?_)
  refine AOL.nil ?_
  refine AW.kq [0] (h := ?_)
  repeat refine AW.seq ?_
  refine AW.ret ?_
  refine ⟨_, [], rfl, HOk.nil _, ?_⟩
  rfl
end Go.Proofs.Ytdbpjegocmdplaa.E.M
end
section
/- Whether something is a point, sums of points, and a point's opposite, by the program: contracts over E. -/
set_option linter.unusedVariables false
set_option linter.unusedSimpArgs false
set_option maxRecDepth 10000
open Go Go.Proofs.Ytdbpjegocmdplaa.E Go.Proofs
namespace Go.Proofs.Ytdbpjegocmdplaa.E.M
theorem isPt_true (x y : Int) : isPt true x y = (x == 0 && y == 0) := by unfold isPt; rw [if_pos rfl]
theorem isPt_false (x y : Int) : isPt false x y = (decide (0 ≤ x ∧ x < 1152921505151057923) && decide (0 ≤ y ∧ y < 1152921505151057923) && (y * y % 1152921505151057923 == (x * x * x + x) % 1152921505151057923)) := by unfold isPt; rw [if_neg (by decide)]
theorem isPt_cub (x : Int) : (x * x % 1152921505151057923 * x % 1152921505151057923 + x) % 1152921505151057923 = (x * x * x + x) % 1152921505151057923 := by
  refine emodP ?_; simp only [K_add, K_mul, K_emod]
set_option maxHeartbeats 1000000 in
theorem curve_Is_c {b : Bool} {x y : Int} (hx : w64 x) (hy : w64 y) : Fn Try.prog 72 [pt (b, x, y)] [] (fun r _ => r = bo (isPt b x y)) := by
  refine Fn.enter Try.func72 Try.ntmps72 rfl (h := ?_)
  have tf := tf
  repeat refine AW.seq ?_
  refine AW.reg ?_
  iterate 2 refine AOL.s1 (h := ?_)
  refine AOL.nil ?_
  refine AW.kq [1] (h := ?_)
  repeat refine AW.seq ?_
  refine AW.reg ?_
  iterate 2 refine AOL.s1 (h := ?_)
  refine AOL.nil ?_
  refine AW.kq [1, 4] (h := ?_)
  repeat refine AW.seq ?_
  refine AW.cond rfl (fun c_ => ?_) (fun c_ => ?_)
  · have hb : b = true := c_
    subst hb
    clear c_
    repeat refine AW.seq ?_
    refine AW.reg ?_
    iterate 4 refine AOL.s1 (h := ?_)
    refine AOL.kq [1, 8] (h := ?_)
    refine AOL.and 8 12 (os' := ?_) (x := ?_) (h1 := ?_) (h0 := ?_) (h := ?_)
    rotate_left 2
    iterate 2
      · intro hb_ K' hK; (iterate 4 refine AOL.s1 (h := ?_)); refine AOL.kq [1, 12] (h := ?_); exact hK
    iterate 1 refine AOL.s1 (h := ?_)
    refine AOL.nil ?_
    refine AW.kq [2] (h := ?_)
    repeat refine AW.seq ?_
    refine AW.ret ?_
    refine ⟨_, [], rfl, HOk.nil _, ?_⟩
    simp only [one?, isPt_true]
  have hb : b = false := c_
  subst hb
  clear c_
  refine AW.skip ?_
  repeat refine AW.seq ?_
  by_cases h1 : x < 1152921505151057923
  · by_cases h2 : y < 1152921505151057923
    · have a1 : decide (0 ≤ x ∧ x < 1152921505151057923) = true := decide_eq_true ⟨hx.1, h1⟩
      have a2 : decide (0 ≤ y ∧ y < 1152921505151057923) = true := decide_eq_true ⟨hy.1, h2⟩
      have e : isPt false x y = (y * y % 1152921505151057923 == (x * x * x + x) % 1152921505151057923) := by rw [isPt_false, a1, a2]; rfl
      rw [e]
      have cb := isPt_cub x
      clear a1 a2 e
      refine AW.drw 24 [] (by kernel_rfl) (h := ?_)
      iterate 13 refine ADL.dm 1 (h := ?_)
      refine ADL.call rfl (curve_mul_c hy hy) (by kernel_rfl) rfl rfl (h := ?_)
      iterate 4 refine ADL.dm 1 (h := ?_)
      refine ADL.call rfl (curve_mul_c hx hx) (by kernel_rfl) rfl rfl (h := ?_)
      iterate 2 refine ADL.dm 1 (h := ?_)
      refine ADL.call rfl (curve_mul_c (ltm _).w hx) (by kernel_rfl) rfl rfl (h := ?_)
      iterate 2 refine ADL.dm 1 (h := ?_)
      refine ADL.done hmix rfl rfl (hT := ?_)
      refine AOL.callD rfl (modular_Add_c mdP (ltm _).w hx) (by kernel_rfl) rfl rfl (h := ?_)
      iterate 3 refine AOL.s1 (h := ?_)
      refine AOL.nil ?_
      refine AW.kq [2] (h := ?_)
      repeat refine AW.seq ?_
      refine AW.ret ?_
      refine ⟨_, [], rfl, HOk.nil _, ?_⟩
      simp only [one?]
    · have a2 : isPt false x y = false := by rw [isPt_false, decide_eq_false (p := 0 ≤ y ∧ y < 1152921505151057923) (fun h => h2 h.2)]; simp
      rw [a2]
      clear a2
      refine AW.drw 24 [] (by kernel_rfl) (h := ?_)
      iterate 24 refine ADL.dm 1 (h := ?_)
      refine ADL.done hmix rfl rfl (hT := ?_)
      iterate 4 refine AOL.s1 (h := ?_)
      refine AOL.nil ?_
      refine AW.kq [2] (h := ?_)
      repeat refine AW.seq ?_
      refine AW.ret ?_
      refine ⟨_, [], rfl, HOk.nil _, ?_⟩
      simp only [one?]
  · have a2 : isPt false x y = false := by rw [isPt_false, decide_eq_false (p := 0 ≤ x ∧ x < 1152921505151057923) (fun h => h1 h.2)]; simp
    rw [a2]
    clear a2
    refine AW.drw 24 [] (by kernel_rfl) (h := ?_)
    iterate 24 refine ADL.dm 1 (h := ?_)
    refine ADL.done hmix rfl rfl (hT := ?_)
    iterate 4 refine AOL.s1 (h := ?_)
    refine AOL.nil ?_
    refine AW.kq [2] (h := ?_)
    repeat refine AW.seq ?_
    refine AW.ret ?_
    refine ⟨_, [], rfl, HOk.nil _, ?_⟩
    simp only [one?]
theorem curve_sure_c {b : Bool} {x y : Int} (hx : w64 x) (hy : w64 y) : Fn Try.prog 64 [pt (b, x, y)] [] (fun r _ => r = pt (sureP b x y)) := by
  refine Fn.enter Try.func64 Try.ntmps64 rfl (h := ?_)
  have tf := tf
  repeat refine AW.seq ?_
  refine AW.reg ?_
  iterate 2 refine AOL.s1 (h := ?_)
  refine AOL.nil ?_
  refine AW.kq [1, 2] (h := ?_)
  repeat refine AW.seq ?_
  refine AW.reg ?_
  iterate 1 refine AOL.s1 (h := ?_)
  refine AOL.callD rfl (curve_Is_c hx hy) (by kernel_rfl) rfl rfl (h := ?_)
  iterate 1 refine AOL.s1 (h := ?_)
  refine AOL.nil ?_
  refine AW.kq [1, 2, 5] (h := ?_)
  repeat refine AW.seq ?_
  cases hp : isPt b x y with
  | false =>
    refine AW.cond rfl (fun c_ => ?_) (fun c_ => ?_)
    · repeat refine AW.seq ?_
      refine AW.reg ?_
      refine AOL.callD rfl (curve_inf_c) (by kernel_rfl) rfl rfl (h := ?_)
      iterate 1 refine AOL.s1 (h := ?_)
      refine AOL.nil ?_
      refine AW.kq [2] (h := ?_)
      repeat refine AW.seq ?_
      refine AW.ret ?_
      refine ⟨_, [], rfl, HOk.nil _, ?_⟩
      simp only [sureP, hp]; rfl
    · cases c_
  | true =>
    refine AW.cond rfl (fun c_ => ?_) (fun c_ => ?_)
    · cases c_
    refine AW.skip ?_
    repeat refine AW.seq ?_
    refine AW.reg ?_
    iterate 2 refine AOL.s1 (h := ?_)
    refine AOL.nil ?_
    refine AW.kq [2] (h := ?_)
    repeat refine AW.seq ?_
    refine AW.ret ?_
    refine ⟨_, [], rfl, HOk.nil _, ?_⟩
    simp only [sureP, hp]; rfl
theorem line_x (l ax bx : Int) : ((l * l % 1152921505151057923 - ax) % 1152921505151057923 - bx) % 1152921505151057923 = (l * l - ax - bx) % 1152921505151057923 := by
  refine emodP ?_; simp only [K_sub, K_mul, K_emod]
theorem line_y (l ax ay X : Int) : (l * ((ax - X) % 1152921505151057923) % 1152921505151057923 - ay) % 1152921505151057923 = (l * (ax - X) - ay) % 1152921505151057923 := by
  refine emodP ?_; simp only [K_sub, K_mul, K_emod]
theorem lam_eq1 (ax d : Int) : (3 * (ax * ax % 1152921505151057923) % 1152921505151057923 + 1) % 1152921505151057923 * d % 1152921505151057923 = (3 * (ax * ax) + 1) * d % 1152921505151057923 := by
  refine emodP ?_; simp only [K_add, K_mul, K_emod]
theorem lam_eq2 (v d : Int) : v % 1152921505151057923 * d % 1152921505151057923 = v * d % 1152921505151057923 := by
  refine emodP ?_; simp only [K_mul, K_emod]
set_option maxHeartbeats 4000000 in
theorem curve_sum_c {a0 b0 : Bool} {ax ay bx bY : Int} (ha : Pt (a0, ax, ay)) (hb : Pt (b0, bx, bY)) : Fn Try.prog 63 [pt (a0, ax, ay), pt (b0, bx, bY)] [] (fun r _ => r = pt (sumP (a0, ax, ay) (b0, bx, bY))) := by
  refine Fn.enter Try.func63 Try.ntmps63 rfl (h := ?_)
  have tf := tf
  repeat refine AW.seq ?_
  refine AW.reg ?_
  iterate 3 refine AOL.s1 (h := ?_)
  refine AOL.nil ?_
  refine AW.kq [2, 3, 4] (h := ?_)
  repeat refine AW.seq ?_
  refine AW.block ?_
  repeat refine AW.seq ?_
  refine AW.block ?_
  repeat refine AW.seq ?_
  refine AW.block ?_
  repeat refine AW.seq ?_
  refine AW.block ?_
  repeat refine AW.seq ?_
  refine AW.reg ?_
  iterate 3 refine AOL.s1 (h := ?_)
  refine AOL.nil ?_
  refine AW.kq [2, 3, 4, 11] (h := ?_)
  repeat refine AW.seq ?_
  cases a0 with
  | true =>
    refine AW.cond rfl (fun c_ => ?_) (fun c_ => ?_)
    · repeat refine AW.seq ?_
      refine AW.exit ?_
      repeat (first | refine Kseq.ex ?_ | refine Kloop.ex ?_ | refine Kblock.miss (by decide) ?_)
      refine Kblock.hit ?_
      refine AW.kq [2, 3, 4] (h := ?_)
      repeat refine AW.seq ?_
      refine AW.reg ?_
      iterate 2 refine AOL.s1 (h := ?_)
      refine AOL.nil ?_
      repeat refine AW.seq ?_
      refine AW.reg ?_
      iterate 2 refine AOL.s1 (h := ?_)
      refine AOL.nil ?_
      refine AW.kq [4] (h := ?_)
      repeat refine AW.seq ?_
      refine AW.ret ?_
      refine ⟨_, [], rfl, HOk.nil _, ?_⟩
      simp only [sumP]; rfl
    · cases c_
  | false =>
  refine AW.cond rfl (fun c_ => ?_) (fun c_ => ?_)
  · cases c_
  refine AW.skip ?_
  clear c_
  repeat refine AW.seq ?_
  refine AW.reg ?_
  iterate 3 refine AOL.s1 (h := ?_)
  refine AOL.nil ?_
  refine AW.kq [2, 3, 4, 14] (h := ?_)
  repeat refine AW.seq ?_
  cases b0 with
  | true =>
    refine AW.cond rfl (fun c_ => ?_) (fun c_ => ?_)
    · repeat refine AW.seq ?_
      refine AW.exit ?_
      repeat (first | refine Kseq.ex ?_ | refine Kloop.ex ?_ | refine Kblock.miss (by decide) ?_)
      refine Kblock.hit ?_
      refine AW.kq [2, 4] (h := ?_)
      repeat refine AW.seq ?_
      refine AW.reg ?_
      iterate 2 refine AOL.s1 (h := ?_)
      refine AOL.nil ?_
      refine AW.kq [4] (h := ?_)
      repeat refine AW.seq ?_
      refine AW.ret ?_
      refine ⟨_, [], rfl, HOk.nil _, ?_⟩
      simp only [sumP]; rfl
    · cases c_
  | false =>
  refine AW.cond rfl (fun c_ => ?_) (fun c_ => ?_)
  · cases c_
  refine AW.skip ?_
  clear c_
  obtain ⟨ax1, ay1, ac⟩ := ha.fin
  obtain ⟨bx1, by1, bc⟩ := hb.fin
  have sp : sumP (false, ax, ay) (false, bx, bY) = if ax = bx ∧ (ay + bY) % 1152921505151057923 = 0 then (true, 0, 0) else lineP (lam (false, ax, ay) (false, bx, bY)) (false, ax, ay) (false, bx, bY) := sumP_fin _ _ _ _
  have dn0 := down_ne ha hb
  clear ac bc ha hb
  repeat refine AW.seq ?_
  refine AW.reg ?_
  iterate 6 refine AOL.s1 (h := ?_)
  refine AOL.kq [2, 3, 4, 23] (h := ?_)
  refine AOL.and 23 30 (os' := ?_) (x := ?_) (h1 := ?_) (h0 := ?_) (h := ?_)
  rotate_left 2
  iterate 2
    · intro hb_ K' hK; (first | (iterate 7 refine AOL.s1 (h := ?_)) | ((iterate 4 refine AOL.s1 (h := ?_)); refine AOL.callD rfl (modular_Add_c mdP ay1.w by1.w) (by kernel_rfl) rfl rfl (h := ?_); (iterate 2 refine AOL.s1 (h := ?_)))); refine AOL.kq [2, 3, 4, 30] (h := ?_); exact hK
  iterate 1 refine AOL.s1 (h := ?_)
  refine AOL.nil ?_
  refine AW.kq [2, 3, 4, 17] (h := ?_)
  repeat refine AW.seq ?_
  refine AW.cond rfl (fun c_ => ?_) (fun c_ => ?_)
  · have hw : ax = bx ∧ (ay + bY) % 1152921505151057923 = 0 := by simpa using c_
    rw [sp, if_pos hw]
    clear sp dn0 hw c_
    repeat refine AW.seq ?_
    refine AW.exit ?_
    repeat (first | refine Kseq.ex ?_ | refine Kloop.ex ?_ | refine Kblock.miss (by decide) ?_)
    refine Kblock.hit ?_
    refine AW.kq [4] (h := ?_)
    repeat refine AW.seq ?_
    refine AW.reg ?_
    refine AOL.callD rfl (curve_inf_c) (by kernel_rfl) rfl rfl (h := ?_)
    iterate 1 refine AOL.s1 (h := ?_)
    refine AOL.nil ?_
    refine AW.kq [4] (h := ?_)
    repeat refine AW.seq ?_
    refine AW.ret ?_
    refine ⟨_, [], rfl, HOk.nil _, ?_⟩
    rfl
  have hw : ¬ (ax = bx ∧ (ay + bY) % 1152921505151057923 = 0) := by
    intro h
    have : (ax == bx && (ay + bY) % 1152921505151057923 == 0) = true := by simp [h.1, h.2]
    rw [this] at c_; cases c_
  rw [sp, if_neg hw]
  have dn := dn0 hw
  clear dn0
  clear sp hw c_
  refine AW.skip ?_
  repeat refine AW.seq ?_
  refine AW.exit ?_
  repeat (first | refine Kseq.ex ?_ | refine Kloop.ex ?_ | refine Kblock.miss (by decide) ?_)
  refine Kblock.hit ?_
  refine AW.kq [2, 3, 4] (h := ?_)
  repeat refine AW.seq ?_
  refine AW.drw 9 [] (by kernel_rfl) (h := ?_)
  iterate 4 refine ADL.dm 1 (h := ?_)
  refine ADL.call rfl (curve_sub_c by1.w ay1.w) (by kernel_rfl) rfl rfl (h := ?_)
  iterate 4 refine ADL.dm 1 (h := ?_)
  refine ADL.done hmix rfl rfl (hT := ?_)
  refine AOL.callD rfl (curve_sub_c bx1.w ax1.w) (by kernel_rfl) rfl rfl (h := ?_)
  iterate 2 refine AOL.s1 (h := ?_)
  refine AOL.nil ?_
  refine AW.kq [2, 3, 4, 5, 6] (h := ?_)
  repeat refine AW.seq ?_
  refine AW.reg ?_
  iterate 5 refine AOL.s1 (h := ?_)
  refine AOL.nil ?_
  refine AW.kq [2, 3, 4, 5, 6, 48] (h := ?_)
  repeat refine AW.seq ?_
  refine AW.midK [2, 3, 4, 5, 6] (fun t => ∃ up down : Int, t = ⟨92, [(2, .ptr 1032 0), (3, .ptr 1048 0), (4, .ptr 1064 0), (5, u up), (6, u down)], [(1032, ⟨32, true, [bo false, u ax, u ay]⟩), (1048, ⟨32, true, [bo false, u bx, u bY]⟩), (1064, ⟨32, true, [bo false, u 0, u 0]⟩)]⟩ ∧ lt up ∧ lt down ∧ down ≠ 0 ∧ up * inv 1152921505151057923 down % 1152921505151057923 = lam (false, ax, ay) (false, bx, bY)) ?_ ?_
  · refine AW.cond rfl (fun c_ => ?_) (fun c_ => ?_)
    · have e : ax = bx := by simpa using c_
      rw [if_pos e] at dn
      clear c_
      subst e
      repeat refine AW.seq ?_
      refine AW.drw 11 [] (by kernel_rfl) (h := ?_)
      iterate 4 refine ADL.dm 1 (h := ?_)
      refine ADL.call rfl (curve_mul_c ax1.w ax1.w) (by kernel_rfl) rfl rfl (h := ?_)
      refine ADL.call rfl (curve_mul_c (by decide) (ltm _).w) (by kernel_rfl) rfl rfl (h := ?_)
      refine ADL.call rfl (modular_Add_c mdP (ltm _).w (by decide)) (by kernel_rfl) rfl rfl (h := ?_)
      iterate 4 refine ADL.dm 1 (h := ?_)
      refine ADL.done hmix rfl rfl (hT := ?_)
      refine AOL.callD rfl (modular_Add_c mdP ay1.w ay1.w) (by kernel_rfl) rfl rfl (h := ?_)
      iterate 2 refine AOL.s1 (h := ?_)
      refine AOL.nil ?_
      refine ⟨_, _, rfl, ltm _, ltm _, dn, ?_⟩
      simp only [lam, if_true, lam_eq1]
    · have e : ¬ ax = bx := by simpa using c_
      rw [if_neg e] at dn
      clear c_
      refine AW.skip ?_
      refine ⟨_, _, rfl, ltm _, ltm _, dn, ?_⟩
      simp only [lam, if_neg e, lam_eq2]
  rintro t ⟨up, down, rfl, hu, hd, hd0, hl⟩
  generalize lam (false, ax, ay) (false, bx, bY) = l at *
  have ci := modular_Inv_c (m := 1152921505151057923) (a := down) prmP hd.w
  rw [hd.self, if_neg hd0] at ci
  have hi := (K_inv hd hd0).2
  have ll : lt l := by rw [← hl]; exact ltm _
  have cm := curve_mul_c (a := up) (b := inv 1152921505151057923 down) hu.w hi.w
  rw [hl] at cm
  clear hl dn
  have lx := line_x l ax bx
  have ly := line_y l ax ay ((l * l - ax - bx) % 1152921505151057923)
  repeat refine AW.seq ?_
  refine AW.reg ?_
  iterate 1 refine AOL.s1 (h := ?_)
  refine AOL.callD rfl (ci) (by kernel_rfl) rfl rfl (h := ?_)
  iterate 5 refine AOL.s1 (h := ?_)
  refine AOL.nil ?_
  refine AW.kq [2, 3, 4, 5, 7, 8] (h := ?_)
  repeat refine AW.seq ?_
  refine AW.reg ?_
  iterate 2 refine AOL.s1 (h := ?_)
  refine AOL.nil ?_
  refine AW.kq [2, 3, 4, 5, 7, 67] (h := ?_)
  repeat refine AW.seq ?_
  refine AW.cond rfl (fun c_ => ?_) (fun c_ => ?_)
  · cases c_
  refine AW.skip ?_
  repeat refine AW.seq ?_
  refine AW.reg ?_
  iterate 2 refine AOL.s1 (h := ?_)
  refine AOL.callD rfl (cm) (by kernel_rfl) rfl rfl (h := ?_)
  iterate 1 refine AOL.s1 (h := ?_)
  refine AOL.nil ?_
  refine AW.kq [2, 3, 4, 9] (h := ?_)
  repeat refine AW.seq ?_
  refine AW.drw 8 [] (by kernel_rfl) (h := ?_)
  iterate 2 refine ADL.dm 1 (h := ?_)
  refine ADL.call rfl (curve_mul_c ll.w ll.w) (by kernel_rfl) rfl rfl (h := ?_)
  iterate 2 refine ADL.dm 1 (h := ?_)
  refine ADL.call rfl (curve_sub_c (ltm _).w ax1.w) (by kernel_rfl) rfl rfl (h := ?_)
  iterate 2 refine ADL.dm 1 (h := ?_)
  refine ADL.done hmix rfl rfl (hT := ?_)
  refine AOL.callD rfl (curve_sub_c (ltm _).w bx1.w) (by kernel_rfl) rfl rfl (h := ?_)
  iterate 1 refine AOL.s1 (h := ?_)
  refine AOL.nil ?_
  refine AW.kq [2, 4, 9, 10] (h := ?_)
  repeat refine AW.seq ?_
  refine AW.drw 10 [] (by kernel_rfl) (h := ?_)
  iterate 5 refine ADL.dm 1 (h := ?_)
  refine ADL.call rfl (curve_sub_c ax1.w (ltm _).w) (by kernel_rfl) rfl rfl (h := ?_)
  refine ADL.call rfl (curve_mul_c ll.w (ltm _).w) (by kernel_rfl) rfl rfl (h := ?_)
  iterate 2 refine ADL.dm 1 (h := ?_)
  refine ADL.call rfl (curve_sub_c (ltm _).w ay1.w) (by kernel_rfl) rfl rfl (h := ?_)
  refine ADL.done hmix rfl rfl (hT := ?_)
  iterate 2 refine AOL.s1 (h := ?_)
  refine AOL.nil ?_
  refine AW.kq [4] (h := ?_)
  repeat refine AW.seq ?_
  refine AW.ret ?_
  refine ⟨_, [], rfl, HOk.nil _, ?_⟩
  simp only [lineP]; rfl
theorem curve_Add_c {a0 b0 : Bool} {ax ay bx bY : Int} (hax : w64 ax) (hay : w64 ay) (hbx : w64 bx) (hby : w64 bY) : Fn Try.prog 31 [pt (a0, ax, ay), pt (b0, bx, bY)] [] (fun r _ => r = pt (sumP (sureP a0 ax ay) (sureP b0 bx bY))) := by
  have pa := sureP_pt a0 ax ay
  have pb := sureP_pt b0 bx bY
  have ca := curve_sure_c (b := a0) hax hay
  have cb := curve_sure_c (b := b0) hbx hby
  have cs : Fn Try.prog 63 [pt (sureP a0 ax ay), pt (sureP b0 bx bY)] [] (fun r _ => r = pt (sumP (sureP a0 ax ay) (sureP b0 bx bY))) := curve_sum_c pa pb
  generalize sureP a0 ax ay = A at *
  generalize sureP b0 bx bY = B at *
  refine Fn.enter Try.func31 Try.ntmps31 rfl (h := ?_)
  have tf := tf
  repeat refine AW.seq ?_
  refine AW.reg ?_
  iterate 3 refine AOL.s1 (h := ?_)
  refine AOL.nil ?_
  refine AW.kq [2, 3, 4] (h := ?_)
  repeat refine AW.seq ?_
  refine AW.drw 3 [] (by kernel_rfl) (h := ?_)
  iterate 1 refine ADL.dm 1 (h := ?_)
  refine ADL.call rfl (ca) (by kernel_rfl) rfl rfl (h := ?_)
  iterate 1 refine ADL.dm 1 (h := ?_)
  refine ADL.done hmix rfl rfl (hT := ?_)
  refine AOL.callD rfl (cb) (by kernel_rfl) rfl rfl (h := ?_)
  refine AOL.callD rfl (cs) (by kernel_rfl) rfl rfl (h := ?_)
  iterate 1 refine AOL.s1 (h := ?_)
  refine AOL.nil ?_
  refine AW.kq [4] (h := ?_)
  repeat refine AW.seq ?_
  refine AW.ret ?_
  refine ⟨_, [], rfl, HOk.nil _, ?_⟩
  rfl
end Go.Proofs.Ytdbpjegocmdplaa.E.M
end
