/- E, a reader of Go's code as the model has it: a contract of a function is proved over values that are told without memory (EJ). -/
import Derived.Test.YtjeafkodcmbabaaDoorEI

set_option linter.unusedVariables false
set_option linter.unusedSimpArgs false
open Go
namespace Go.Proofs.YtjeafkodcmbabaaDoor.E
set_option linter.unusedVariables false
set_option linter.unusedSimpArgs false
/-! ## Bytes out of a string -/
def strNums (s : ByteArray) : List Int := s.data.toList.map fun b => (b.toNat : Int)
theorem strNums_len (s : ByteArray) : (strNums s).length = s.size := by simp [strNums]
theorem strNums_b (s : ByteArray) : ∀ b ∈ strNums s, 0 ≤ b ∧ b < 256 := by
  intro b hb
  obtain ⟨x, _, rfl⟩ := List.mem_map.1 hb
  have := x.toNat_lt
  omega
theorem strBytes_run {P : Program} {ρ F st a w} (hR : Rel ρ F st a w) {d s t e : Nat} {x : ByteArray} (hs : P.underlying s = some .string) (ht : P.underlying t = some (.slice e)) (he : P.underlying e = some (.int .u8)) (hx : x.size ≤ maxLen) :
    ∃ u w' ρ', (convert s t (.string x)).run P w = .ok u w' ∧ Rel ρ' F (st.new (lab d) ⟨e, false, by8 (strNums x)⟩) a w' ∧ VR ρ' F w' (.ref (lab d) 0 x.size 1) u ∧ Fr ρ F w ρ' F w' := by
  have hcap : x.size ≤ grownCap w x.size 0 e := grownCap_ge w x.size 0 e
  have hmax := grownCap_le_maxLen w x.size 0 e hx
  have hsz : (bytesRow x (grownCap w x.size 0 e)).size = grownCap w x.size 0 e := by simp [bytesRow]; omega
  have g : Grew w (w.drew.alloc (.cells (bytesRow x (grownCap w x.size 0 e)) e ((bytesRow x (grownCap w x.size 0 e)).size, (bytesRow x (grownCap w x.size 0 e)).size + 1))) (bytesRow x (grownCap w x.size 0 e)) e :=
    ⟨rfl, rfl, rfl, _, rfl, .inr (Nat.le_refl _)⟩
  have hvs : ∀ (L : List Int), VRs (fun _ => none) F w (by8 L) (L.map (Value.int .u8)) := by
    intro L
    induction L with
    | nil => rfl
    | cons b L ih => exact ⟨_, _, rfl, rfl, ih⟩
  refine ⟨_, _, _, run_bytes_of_string w s t e x hs ht he, hR.new g (L := lab d) rfl (vs := (strNums x).map (Value.int .u8)) (hvs _) (by rw [List.length_map, strNums_len, hsz]; exact hcap) ?_, ?_, Fr.new' g (by simp [lab]) _⟩
  · intro i v hi
    refine ⟨?_, ?_⟩
    · have hlt : i < x.size := by have := (List.getElem?_eq_some_iff.1 hi).1; rwa [List.length_map, strNums_len] at this
      have hlt' : i < x.data.size := hlt
      rw [← hi]
      unfold bytesRow strNums
      rw [Array.getElem?_append_left (by simpa using hlt')]
      simp
      cases x.data[i]? <;> rfl
    · obtain ⟨b, _, rfl⟩ := List.mem_map.1 (List.mem_of_getElem? hi)
      rfl
  · simp only [VR]
    refine .inl ⟨w.heap.size, _, grownCap w x.size 0 e, by rw [rset, if_pos rfl], rfl, hcap, by rw [hsz]; omega, hmax⟩
def strL (st : St) (ops : List Oper) (o : Oper) : Option (Tmp × ByteArray × TypeId × TypeId) :=
  match dOk st.n o.dst, gOkL ops st o.guard, o.dst, o.op with
  | true, some true, some d, .convert s t y => match st.eval y with
    | some (.val (.string x)) => some (d, x, s, t)
    | _ => none
  | _, _, _, _ => none
theorem AOL.strB {P : Program} {ops : Array Oper} {o : Oper} {os : List Oper} {K : St → Prop} {st st' : St} {d s t e : Nat} {x : ByteArray} {L : List Int}
    (hc : strL st ops.toList o = some (d, x, s, t)) (hs : P.underlying s = some .string) (ht : P.underlying t = some (.slice e)) (he : P.underlying e = some (.int .u8)) (hx : strNums x = L) (hl : L.length ≤ 140737488355328)
    (hst : (st.new (lab d) ⟨e, false, by8 L⟩).put (some d) (.ref (lab d) 0 L.length 1) = st' := by simp only [St.new, St.drop, mapT, mapH, kill, kills, del, St.put, ins, lab, Nat.reduceMul, Nat.reduceAdd, reduceIte, Nat.reduceLT, Nat.reduceEqDiff, Bool.false_eq_true]; exact rfl)
    (h : AOL P ops os K st') : AOL P ops (o :: os) K st := by
  subst hst
  intro i hi
  obtain ⟨ho, hi'⟩ := drop_cons hi
  rw [List.length_cons, List.range'_succ]
  unfold strL at hc
  split at hc
  · rename_i d' s' t' y hd hg hdst hop
    rw [gOkL_eq] at hg
    split at hc
    · rename_i x' hy
      simp only [Option.some.injEq, Prod.mk.injEq] at hc
      obtain ⟨rfl, rfl, rfl, rfl⟩ := hc
      intro ρ F a w Q hR hQ
      have hw := gOk_rel hR hg
      have hv := hR.get hy
      simp only [VR] at hv
      have hxl : x'.size = L.length := by rw [← hx, strNums_len]
      obtain ⟨u, w', ρ', hr, hR', hvr, hF⟩ := strBytes_run (d := d') hR hs ht he (by rw [hxl]; simp only [maxLen]; omega)
      rw [hx] at hR'; rw [hxl] at hvr
      simp only [wpOps, ho, hw, if_true]
      refine .inl ?_
      simp only [Oper.wp, hop, execOp, hv, Sem.run_bind, hr, Result.andThen, Oper.upon]
      refine h (i + 1) hi' ρ' F _ w' Q (by have := hR'.put (d := some d') (dOk_lt (by rw [← hdst]; exact hd)) hvr; rw [hdst]; exact this) fun st' ρ'' F' a' w' hk hr hf => hQ st' ρ'' F' a' w' hk hr (hF.trans hf)
    · cases hc
  · cases hc
end Go.Proofs.YtjeafkodcmbabaaDoor.E

namespace Go.Proofs.YtjeafkodcmbabaaDoor.E
set_option linter.unusedVariables false
set_option linter.unusedSimpArgs false
/-! ## A drawn region in every order, its calls among it -/
theorem wpOp_of {P : Program} {ops : Array Oper} {Q : Exit → Act → World → Prop} {i : Nat} {N : Act → World → Prop} {a : Act} {w : World}
    (h : wpOps P ops (fun e a w => match e with | .normal => N a w | e => Q e a w) [i] a w) : wpOp P ops Q i N a w := by
  rw [wpOps_cons] at h
  unfold wpOp at *
  split
  · rename_i ho; simp only [ho, wpOps] at h; exact h
  · rename_i o ho
    simp only [ho] at h
    split
    · rename_i hw
      simp only [hw, if_true] at h
      rcases h with h | ⟨h1, b, v, h2⟩
      · refine .inl ?_
        unfold Oper.wp at *
        generalize (execOp a.eval o).run P w = r at *
        cases r with
        | ok n w' =>
          cases n <;> simp only [Oper.upon] at h ⊢ <;>
            first
              | exact h
              | exact Calls.mono h (fun e w'' he => by
                  cases e with
                  | returned v => exact he
                  | panicked c => exact he
                  | outgrown => obtain ⟨b, v, h3⟩ := he; exact ⟨b, v, h3⟩)
              | exact Rows.mono h (fun _ _ he => he)
        | halt x w' => cases x <;> simp only [Oper.upon] at h ⊢ <;> exact h
      · exact .inr ⟨h1, b, v, h2⟩
    · rename_i hw
      simp only [hw] at h
      exact h
/-- one operation without a guard, by itself -/
theorem AOps.lone {P : Program} {ops : Array Oper} {i : Nat} {o : Oper} {K : St → Prop} {st : St} (ho : ops[i]? = some o) (hg : o.guard = none) (h : AOL P #[o] [o] K st) : AOps P ops [i] K st := by
  intro ρ F a w Q hR hQ
  have h1 := h 0 rfl ρ F a w Q hR hQ
  have e : ∀ (ops : Array Oper), Region.wanted o (yielded ops a.tmps) = true := by intro ops; simp [Region.wanted, hg]
  have h2 : wpOps P #[o] Q [0] a w := h1
  have h0 : (#[o] : Array Oper)[0]? = some o := rfl
  simp only [wpOps, h0, e] at h2
  simp only [wpOps, ho, e]
  exact h2
def AAllC (P : Program) (ops : Array Oper) (fuel : Nat) (listed : Array Bool) : List Nat → (St → Prop) → St → Prop
  | [], _, _ => True
  | i :: r, K, st => AOps P ops [i] (fun st' => AAny P ops fuel (listed.setIfInBounds i true) K st') st ∧ AAllC P ops fuel listed r K st
theorem AAllC.mem {P : Program} {ops : Array Oper} {fuel : Nat} {listed : Array Bool} {K : St → Prop} {st : St} : ∀ {rs : List Nat} {i : Nat}, AAllC P ops fuel listed rs K st → i ∈ rs → AOps P ops [i] (fun st' => AAny P ops fuel (listed.setIfInBounds i true) K st') st
  | [], i, _, h => by cases h
  | j :: r, i, h, hi => by
    simp only [AAllC] at h
    rcases List.mem_cons.1 hi with rfl | hi
    · exact h.1
    · exact AAllC.mem h.2 hi
theorem AAny.stepC {P : Program} {ops : Array Oper} {fuel : Nat} {listed : Array Bool} {K : St → Prop} {st : St} (rs : List Nat) (hrs : Region.ready .any ops listed = rs) (hne : rs.isEmpty = false) (h : AAllC P ops fuel listed rs K st) : AAny P ops (fuel + 1) listed K st := by
  subst hrs
  intro ρ F a w Q hR hQ
  refine ⟨fun h0 => (by rw [h0] at hne; cases hne), ?_⟩
  intro i hi
  refine wpOp_of ?_
  refine h.mem hi ρ F a w _ hR ?_
  intro st' ρ' F' a' w' hk hr hf
  exact hk ρ' F' a' w' Q hr fun st'' ρ'' F'' a'' w'' h1 h2 h3 => hQ st'' ρ'' F'' a'' w'' h1 h2 (hf.trans h3)
theorem AAllC.cons {P : Program} {ops : Array Oper} {fuel : Nat} {listed : Array Bool} {K : St → Prop} {st : St} {i : Nat} {r : List Nat} {o : Oper} (ho : nthO ops.toList i = some o) (hg : o.guard = none)
    (h1 : AOL P #[o] [o] (fun st' => AAny P ops fuel (listed.setIfInBounds i true) K st') st) (h2 : AAllC P ops fuel listed r K st) : AAllC P ops fuel listed (i :: r) K st :=
  ⟨AOps.lone (by rw [← Array.getElem?_toList, ← nthO_eq]; exact ho) hg h1, h2⟩
theorem AAllC.nil {P : Program} {ops : Array Oper} {fuel : Nat} {listed : Array Bool} {K : St → Prop} {st : St} : AAllC P ops fuel listed [] K st := trivial
end Go.Proofs.YtjeafkodcmbabaaDoor.E
