/- E, a reader of Go's code as the model has it: a contract of a function is proved over values that are told without memory (EH). -/
import Derived.Test.YtjeafkodcmbabaaDoorEG

set_option linter.unusedVariables false
set_option linter.unusedSimpArgs false
open Go
namespace Go.Proofs.YtjeafkodcmbabaaDoor.E
set_option linter.unusedVariables false
set_option linter.unusedSimpArgs false
/-! ## Writes among what may stand in any order, to blocks that are born there too -/
def vW1 (W : Wr) (S : Nat → Bool) (d : Option Tmp) (v : AV × Option Blk) : AV × Option Blk := (v.1, match d with | some d => v.2.map (newB W S (lab d)) | none => v.2)
def vW (W : Wr) (S : Nat → Bool) : List Oper → List (AV × Option Blk) → List (AV × Option Blk)
  | o :: os, v :: vs => vW1 W S o.dst v :: vW W S os vs
  | _, vs => vs
theorem vW_len (W : Wr) (S : Nat → Bool) : ∀ (os : List Oper) (vs : List (AV × Option Blk)), (vW W S os vs).length = vs.length
  | [], _ => by simp only [vW]
  | _ :: _, [] => by simp only [vW]
  | o :: os, v :: vs => by simp only [vW, List.length_cons, vW_len W S os vs]
theorem vW_at {W : Wr} {S : Nat → Bool} : ∀ {os : List Oper} {vs : List (AV × Option Blk)} {i : Nat} {o : Oper} {v : AV × Option Blk}, os[i]? = some o → vs[i]? = some v → (vW W S os vs)[i]? = some (vW1 W S o.dst v)
  | [], _, i, o, v, h, _ => by simp at h
  | _ :: _, [], i, o, v, _, h => by simp at h
  | o' :: os, v' :: vs, 0, o, v, h1, h2 => by simp at h1 h2; subst h1 h2; simp [vW]
  | o' :: os, v' :: vs, i + 1, o, v, h1, h2 => by simp only [vW, List.getElem?_cons_succ] at h1 h2 ⊢; exact vW_at h1 h2
theorem vW_of {W : Wr} {S : Nat → Bool} {os : List Oper} {vs : List (AV × Option Blk)} {i : Nat} {o : Oper} {v' : AV × Option Blk} (h1 : os[i]? = some o) (h2 : (vW W S os vs)[i]? = some v') : ∃ v, vs[i]? = some v ∧ v' = vW1 W S o.dst v := by
  have hl := (List.getElem?_eq_some_iff.1 h2).1
  rw [vW_len] at hl
  have h3 : vs[i]? = some vs[i] := List.getElem?_eq_getElem hl
  refine ⟨_, h3, ?_⟩
  have := vW_at (W := W) (S := S) h1 h3
  rw [h2] at this
  exact Option.some.inj this
theorem vW1_some {W : Wr} {S : Nat → Bool} {d : Option Tmp} {v : AV × Option Blk} : (vW1 W S d v).2.isSome = v.2.isSome := by
  cases d <;> simp [vW1]
theorem partT_vW {W : Wr} {S S' : Nat → Bool} : ∀ (s : Nat) (os : List Oper) (vs : List (AV × Option Blk)), partT S' s os (vW W S os vs) = partT S' s os vs
  | s, [], vs => by simp only [vW]
  | s, _ :: _, [] => by simp only [vW]
  | s, o :: os, v :: vs => by simp only [vW, partT, partT_vW (s + 1) os vs]; rfl
theorem vW_congr {W : Wr} {S T : Nat → Bool} : ∀ {os : List Oper} {vs : List (AV × Option Blk)}, (∀ (i : Nat) (o : Oper) (v : AV × Option Blk) (d : Tmp) (B : Blk), os[i]? = some o → vs[i]? = some v → o.dst = some d → v.2 = some B → newB W S (lab d) B = newB W T (lab d) B) → vW W S os vs = vW W T os vs
  | [], _, _ => by simp only [vW]
  | _ :: _, [], _ => by simp only [vW]
  | o :: os, v :: vs, h => by
    simp only [vW]
    congr 1
    · unfold vW1
      cases hd : o.dst with
      | none => rfl
      | some d =>
        cases hB : v.2 with
        | none => rfl
        | some B => simp only [Option.map_some]; rw [h 0 o v d B (by simp) (by simp) hd hB]
    · exact vW_congr fun i o' v' d B h1 h2 => h (i + 1) o' v' d B (by simpa using h1) (by simpa using h2)
theorem newB_no {W : Wr} {S : Nat → Bool} {l : Nat} {B : Blk} (h : ∀ e ∈ W, e.2.1 = l → S e.1 = false) : newB W S l B = B := by
  induction W with
  | nil => rfl
  | cons e r ih =>
    simp only [newB]
    split
    · rename_i he; rw [h e (by simp) he]; simp
    · exact ih fun x hx => h x (List.mem_cons_of_mem _ hx)
theorem okW_one : ∀ {W : Wr}, okW W = true → ∀ {a b : Nat × Nat × Blk}, a ∈ W → b ∈ W → a.1 = b.1 → a = b
  | [], _, a, b, h, _, _ => by cases h
  | e :: r, ok, a, b, ha, hb, hab => by
    simp only [okW, Bool.and_eq_true, List.all_eq_true, decide_eq_true_eq] at ok
    rcases List.mem_cons.1 ha with h1 | h1 <;> rcases List.mem_cons.1 hb with h2 | h2
    · rw [h1, h2]
    · rw [h1] at hab; exact absurd hab.symm (ok.1 _ h2).1
    · rw [h2] at hab; exact absurd hab (ok.1 _ h1).1
    · exact okW_one ok.2 h1 h2 hab
theorem get?_only {α : Type} {l : Nat} {x : α} : ∀ {L : List (Nat × α)}, (l, x) ∈ L → (∀ C, (l, C) ∈ L → C = x) → get? l L = some x
  | (k, y) :: r, h, hu => by
    simp only [get?]
    split
    · rename_i e; subst e; rw [hu y (by simp)]
    · rename_i e
      refine get?_only ?_ fun C hC => hu C (List.mem_cons_of_mem _ hC)
      rcases List.mem_cons.1 h with h | h
      · cases h; exact absurd rfl e
      · exact h
/-- the block that is written: one of old, or one that was born here -/
def Here (st : St) (os : List Oper) (vs : List (AV × Option Blk)) (o : Oper) (l : Nat) (B : Blk) : Prop :=
  get? l st.h = some B ∨ ∃ (j : Nat) (o' : Oper) (v' : AV × Option Blk) (d : Tmp), os[j]? = some o' ∧ vs[j]? = some v' ∧ o'.dst = some d ∧ lab d = l ∧ v'.2 = some B ∧ j ∈ dpreds o
/-- a write among what may stand in any order -/
def SFactB (P : Program) (st : St) (W : Wr) (ops : Array Oper) (os : List Oper) (vs : List (AV × Option Blk)) (i : Nat) (o : Oper) (v : AV × Option Blk) : Prop :=
  o.dst = none ∧ v = (.dead, none) ∧ ∃ L, LateOk st os i L ∧ gOk ops (dViewL ⟨st.n, st.t, hV W st.h⟩ os vs L o) o = some true ∧
    ∃ t x y l off u B z, o.op = .store t x y ∧ (dViewL ⟨st.n, st.t, hV W st.h⟩ os vs L o).eval x = some (.ptr l off) ∧ (dViewL ⟨st.n, st.t, hV W st.h⟩ os vs L o).eval y = some u ∧ Here st os vs o l B ∧ tSz P t = some z ∧
      (u.fits = true ∧ u.cells.length = z ∧ 0 < z ∧ off + z ≤ B.cs.length ∧ (B.boxy = false → frees u.cells = true)) ∧ (i, l, { B with cs := splice off u.cells B.cs }) ∈ W
def DFactB (P : Program) (st : St) (W : Wr) (ops : Array Oper) (os : List Oper) (vs : List (AV × Option Blk)) (i : Nat) (o : Oper) (v : AV × Option Blk) : Prop :=
  ((∀ e ∈ W, e.1 ≠ i) ∧ DFact P ⟨st.n, st.t, hV W st.h⟩ ops os vs i o v) ∨ SFactB P st W ops os vs i o v

theorem store_stepB {P : Program} {ops : Array Oper} {st : St} {W : Wr} {os : List Oper} {vs : List (AV × Option Blk)} {S : Nat → Bool} {ρ : Rho} {F : Nat → Prop} {a : Act} {w : World} {i : Nat} {o : Oper} {v : AV × Option Blk}
    (ok : okW W = true) (hnd : (dsts os).Nodup) (hno : ∀ (j : Nat) (o' : Oper) (v' : AV × Option Blk) (d : Tmp), os[j]? = some o' → vs[j]? = some v' → o'.dst = some d → v'.2.isSome = true → ∀ C, (lab d, C) ∉ st.h)
    (ho' : ops[i]? = some o) (ho : os[i]? = some o) (hv : vs[i]? = some v) (hS : S i = false) (hp : ∀ j ∈ dpreds o, S j = true) (hcl0 : ∀ (j : Nat) (o' : Oper), os[j]? = some o' → S j = true → ∀ k ∈ dpreds o', S k = true) (hfact : SFactB P st W ops os vs i o v) (hI : Inv ⟨st.n, st.t, hW W S st.h⟩ os (vW W S os vs) S ρ F a w)
    {N : Act → World → Prop} {Q : Exit → Act → World → Prop} (hN : ∀ ρ' F' a' w', Inv ⟨st.n, st.t, hW W (upd S i) st.h⟩ os (vW W (upd S i) os vs) (upd S i) ρ' F' a' w' → Fr ρ F w ρ' F' w' → N a' w') : wpOp P ops Q i N a w := by
  obtain ⟨hdst, rfl, L, hL, hg, t, x, y, l, off, u, B, z, hop, hx, hy, hB, hz, hc, hm⟩ := hfact
  have hvw : Rel ρ F (dViewL ⟨st.n, st.t, hV W st.h⟩ os vs L o) a w := hI.rel.subset rfl (by
    intro p hp'
    simp only [dViewL, dSt, List.mem_append] at hp' ⊢
    rw [partT_vW]
    rcases hp' with h | h | h
    · obtain ⟨j, o', v', h1, h2, h3, h4, h5⟩ := mem_partT.1 h
      refine .inl (mem_partT.2 ⟨j, o', v', h1, h2, ?_, h4, h5⟩)
      rw [Nat.zero_add] at h3 ⊢
      exact hp j (by simpa using h3)
    · refine .inr (mem_dropTs' (hL p h).1 fun hm => ?_)
      obtain ⟨j, o', h1, h2, h3⟩ := mem_dstsS.1 hm
      rw [Nat.zero_add] at h2
      have := hcl0 j o' h1 h2 i ((hL p h).2 j o' h1 h3)
      rw [hS] at this; cases this
    · have h' := mem_dropTs h
      refine .inr (mem_dropTs' h'.1 fun hm => h'.2 ?_)
      obtain ⟨j, o', h1, h2, h3⟩ := mem_dstsS.1 hm
      exact dsts_mem h1 h3) (by intro p hp'; simp only [dViewL, dSt, List.mem_append] at hp' ⊢; exact .inr (hV_sub p hp'))
  have hw := gOk_rel hvw hg
  simp only [wpOp, ho', hw, if_true]
  refine .inl ?_
  have hgl : get? l (dSt ⟨st.n, st.t, hW W S st.h⟩ os (vW W S os vs) S).h = some B := by
    show get? l (partH S 0 os (vW W S os vs) ++ hW W S st.h) = some B
    rcases hB with hB | ⟨j0, o0, v0, d0, b1, b2, b3, b4, b5, b6⟩
    · rw [get?_append_none, get?_hW, hB, Option.map_some, (newB_at ok hm B).1 hS]
      intro C hC
      obtain ⟨j, o', v', d, h1, h2, h3, h4, h5, h6⟩ := mem_partH.1 hC
      obtain ⟨v2, h7, rfl⟩ := vW_of h1 h2
      subst h5
      exact hno j o' v2 d h1 h7 h4 (by rw [← vW1_some (W := W) (S := S) (d := o'.dst), h6]; rfl) _ (get?_mem hB)
    · subst b4
      have hk : ∀ C, (lab d0, C) ∉ hW W S st.h := hW_key (hno j0 o0 v0 d0 b1 b2 b3 (by rw [b5]; rfl))
      refine get?_only ?_ ?_
      · refine List.mem_append.2 (.inl (mem_partH.2 ⟨j0, o0, _, d0, b1, vW_at b1 b2, by rw [Nat.zero_add]; exact hp j0 b6, b3, rfl, ?_⟩))
        simp only [vW1, b3, b5, Option.map_some]
        rw [(newB_at ok hm B).1 hS]
      · intro C hC
        rcases List.mem_append.1 hC with hC | hC
        · obtain ⟨j, o', v', d, h1, h2, h3, h4, h5, h6⟩ := mem_partH.1 hC
          obtain ⟨v2, h7, rfl⟩ := vW_of h1 h2
          have := lab_inj h5
          subst this
          have := dsts_inj hnd h1 b1 h4 b3
          subst this
          rw [h1] at b1; cases b1
          rw [h7] at b2; cases b2
          simp only [vW1, h4, b5, Option.map_some] at h6
          rw [(newB_at ok hm B).1 hS] at h6
          exact (Option.some.inj h6).symm
        · exact absurd hC (hk C)
  have hst : aStore P (dSt ⟨st.n, st.t, hW W S st.h⟩ os (vW W S os vs) S) t (.ptr l off) u = some { (dSt ⟨st.n, st.t, hW W S st.h⟩ os (vW W S os vs) S) with h := ins l { B with cs := splice off u.cells B.cs } (dSt ⟨st.n, st.t, hW W S st.h⟩ os (vW W S os vs) S).h } := by
    simp only [aStore, hz, hgl, Option.bind_some]
    rw [if_pos hc]
  obtain ⟨w', hr, hR', hF⟩ := aStore_run hI.rel (hvw.get hx) (hvw.get hy) hst
  have hfin := Inv.finish (st := ⟨st.n, st.t, hW W (upd S i) st.h⟩) (vs := vW W (upd S i) os vs) (S := S) (u := undef) hnd ho (vW_at ho hv) (by rw [hdst]; rfl) (hR'.subset rfl (fun p h => by
    have h : p ∈ partT S 0 os (vW W (upd S i) os vs) ++ dropTs (dstsS S 0 os) st.t := h
    rw [partT_vW] at h
    show p ∈ partT S 0 os (vW W S os vs) ++ dropTs (dstsS S 0 os) st.t
    rw [partT_vW]
    exact h) (by
    intro p hp'
    simp only [hdst, bentry?, List.nil_append] at hp'
    have hp' : p ∈ partH S 0 os (vW W (upd S i) os vs) ++ hW W (upd S i) st.h := hp'
    rcases List.mem_append.1 hp' with h | h
    · obtain ⟨j, o', v', d, h1, h2, h3, h4, h5, h6⟩ := mem_partH.1 h
      obtain ⟨v2, h7, rfl⟩ := vW_of h1 h2
      cases hb2 : v2.2 with
      | none => simp [vW1, h4, hb2] at h6
      | some C =>
        simp only [vW1, h4, hb2, Option.map_some] at h6
        by_cases e : lab d = l
        · have h8 := Option.some.inj h6
          rw [e, (newB_at (S := upd S i) ok hm C).2 (by simp [upd])] at h8
          have : p = (l, { B with cs := splice off u.cells B.cs }) := by rw [h8, ← e, h5]
          rw [this]
          exact mem_ins_self _ _ _
        · rw [newB_else ok hm e] at h6
          refine mem_ins_other (by rw [← h5]; exact e) (List.mem_append.2 (.inl (mem_partH.2 ⟨j, o', _, d, h1, vW_at h1 h7, h3, h4, h5, ?_⟩)))
          simp only [vW1, h4, hb2, Option.map_some]
          exact h6
    · rcases hW_ins ok hm p h with rfl | ⟨hne, h⟩
      · exact mem_ins_self _ _ _
      · exact mem_ins_other hne (List.mem_append.2 (.inr h)))) (by show VR _ _ _ AV.dead _; simp only [VR]) (by
    intro j o' v' d h1 h2 h3 h4 h5
    simp only [upd, Bool.or_eq_false_iff] at h3
    obtain ⟨v2, h7, rfl⟩ := vW_of h1 h2
    exact hI.new j o' _ d h1 (vW_at h1 h7) h3.1 h4 (by rw [vW1_some] at h5 ⊢; exact h5))
  have := hN _ _ _ _ hfin hF
  rw [hdst] at this
  simpa [execOp, hop, hr, Oper.wp, Oper.upon, hdst] using this

theorem draw_anyB {P : Program} {ops : Array Oper} {st : St} {os : List Oper} {vs : List (AV × Option Blk)} {m : Nat} {K : St → Prop} {Q : Exit → Act → World → Prop} {ρ0 : Rho} {F0 : Nat → Prop} {w0 : World}
    {W : Wr} (ok : okW W = true) (hWm : ∀ e ∈ W, e.1 < m) (hos : os = ops.toList.take m) (hm : m ≤ ops.size) (hvl : vs.length = m) (ht : tailOk ops m = true) (hnd : (dsts os).Nodup)
    (hno : ∀ (j : Nat) (o' : Oper) (v' : AV × Option Blk) (d : Tmp), os[j]? = some o' → vs[j]? = some v' → o'.dst = some d → v'.2.isSome = true → ∀ C, (lab d, C) ∉ st.h)
    (hfact : ∀ (i : Nat) (o : Oper) (v : AV × Option Blk), os[i]? = some o → vs[i]? = some v → DFactB P st W ops os vs i o v)
    (hT : AOps P ops (List.range' m (ops.size - m)) K (dSt ⟨st.n, st.t, hW W (fun _ => true) st.h⟩ os (vW W (fun _ => true) os vs) fun _ => true))
    (hQ : ∀ st' ρ' F' a' w', K st' → Rel ρ' F' st' a' w' → Fr ρ0 F0 w0 ρ' F' w' → Q .normal a' w') :
    ∀ (fuel : Nat) {listed : Array Bool} {a : Act} {w : World} {ρ : Rho} {F : Nat → Prop}, listed.size = ops.size → unl listed.toList = fuel → Closed ops (ls listed) → (∀ i, ls listed i = true → i < m) →
      Inv ⟨st.n, st.t, hW W (ls listed) st.h⟩ os (vW W (ls listed) os vs) (ls listed) ρ F a w → Fr ρ0 F0 w0 ρ F w → wpAny P .any ops Q fuel listed a w := by
  have hedge : ∀ (i : Nat) (o : Oper), ops[i]? = some o → ∀ j ∈ dpreds o, j < i := by
    intro i o ho j hj
    simp only [tailOk, Bool.and_eq_true] at ht
    have := edgesOk_lt ht.1 i o (by rw [Array.getElem?_toList]; exact ho) j hj
    omega
  have hosget : ∀ i, i < m → os[i]? = ops[i]? := by
    intro i hi; rw [hos, List.getElem?_take, if_pos hi, Array.getElem?_toList]
  -- all ahead of the tail is done
  have full : ∀ (fuel : Nat) {listed : Array Bool} {a : Act} {w : World} {ρ : Rho} {F : Nat → Prop}, listed.size = ops.size → unl listed.toList = fuel → (∀ i, ls listed i = decide (i < m)) →
      Inv ⟨st.n, st.t, hW W (ls listed) st.h⟩ os (vW W (ls listed) os vs) (ls listed) ρ F a w → Fr ρ0 F0 w0 ρ F w → wpAny P .any ops Q fuel listed a w := by
    intro fuel listed a w ρ F hs hu hl hI hFr
    have hfuel : fuel = ops.size - m := by
      have key : ∀ (l : List Bool) (s : Nat), (∀ (i : Nat) b, l[i]? = some b → b = decide (s + i < m)) → unl l = (s + l.length - m) - (s - m) := by
        intro l
        induction l with
        | nil => intro s _; simp [unl]
        | cons b l ih =>
          intro s h
          have h0 := h 0 b (by simp)
          have h1 := ih (s + 1) (fun i b hb => by have := h (i + 1) b (by simpa using hb); rw [this]; congr 1; apply propext; constructor <;> intro <;> omega)
          simp only [unl, h1, List.length_cons]
          rw [h0]
          by_cases hsm : s + 0 < m
          · rw [if_pos (by simpa using hsm)]; omega
          · rw [if_neg (by simpa using hsm)]; omega
      have := key listed.toList 0 (by
        intro i b hb
        have h1 := hl i
        have hlt : i < listed.size := by have := (List.getElem?_eq_some_iff.1 hb).1; simpa using this
        rw [Nat.zero_add, ← h1]
        simp only [ls, Array.getD_eq_getD_getElem?, ← Array.getElem?_toList, hb]; rfl)
      rw [hu] at this
      simp at this; omega
    subst hfuel
    refine tail_any ht _ (k := m) hs (Nat.le_refl _) (by omega) hl ?_
    refine hT ρ F a w Q (hI.rel.subset rfl ?_ ?_) (fun st' ρ' F' a' w' h1 h2 h3 => hQ st' ρ' F' a' w' h1 h2 (hFr.trans h3))
    · intro p hp
      simp only [dSt, List.mem_append] at hp ⊢
      rw [partT_vW] at hp ⊢
      rcases hp with hp | hp
      · obtain ⟨i, o, v, h1, h2, _, h4, h5⟩ := mem_partT.1 hp
        refine .inl (mem_partT.2 ⟨i, o, v, h1, h2, ?_, h4, h5⟩)
        have := (List.getElem?_eq_some_iff.1 h2).1
        rw [hl]; simp; omega
      · have hp' := mem_dropTs hp
        refine .inr (mem_dropTs' hp'.1 fun hm => hp'.2 ?_)
        obtain ⟨j, o', h1, h2, h3⟩ := mem_dstsS.1 hm
        exact mem_dstsS.2 ⟨j, o', h1, rfl, h3⟩
    · intro p hp
      simp only [dSt, List.mem_append] at hp ⊢
      rcases hp with hp | hp
      · rw [vW_congr (T := ls listed) fun _ _ _ d B _ _ _ _ => newB_all fun e he => by rw [hl]; simp [hWm e he]] at hp
        obtain ⟨i, o, v, d, h1, h2, _, h4, h5⟩ := mem_partH.1 hp
        refine .inl (mem_partH.2 ⟨i, o, v, d, h1, h2, ?_, h4, h5⟩)
        have := (List.getElem?_eq_some_iff.1 h2).1
        rw [vW_len] at this
        rw [hl]; simp; omega
      · refine .inr ?_
        rw [hW_all (T := fun _ => true)]
        · exact hp
        · intro e he; rw [hl]; simp [hWm e he]
  intro fuel
  induction fuel with
  | zero =>
    intro listed a w ρ F hs hu hc hlm hI hFr
    refine full 0 hs hu ?_ hI hFr
    intro i
    cases hli : ls listed i with
    | true => have := hlm i hli; simp [this]
    | false =>
      by_cases him : i < m
      · exfalso
        have hlt : i < listed.size := by omega
        have hb : listed.toList[i]? = some listed[i] := by simp [hlt]
        have := unl_zero hu i _ hb
        simp only [ls, Array.getD_eq_getD_getElem?, Array.getElem?_eq_getElem hlt] at hli
        rw [this] at hli
        simp at hli
      · simp [him]
  | succ fuel ih =>
    intro listed a w ρ F hs hu hc hlm hI hFr
    by_cases hfull : ∀ i, ls listed i = decide (i < m)
    · exact full _ hs hu hfull hI hFr
    · obtain ⟨i0, h1, h2⟩ := unl_pos (l := listed.toList) (by omega)
      have hi0 : i0 < listed.size := by have := (List.getElem?_eq_some_iff.1 h1).1; simpa using this
      have hls : ∀ (i : Nat) b, listed.toList[i]? = some b → ls listed i = b := by
        intro i b hb; simp only [ls, Array.getD_eq_getD_getElem?, ← Array.getElem?_toList, hb]; rfl
      obtain ⟨o0, ho0⟩ : ∃ o, ops[i0]? = some o := ⟨_, Array.getElem?_eq_getElem (by omega)⟩
      have hr0 : i0 ∈ Region.ready .any ops listed := (ready_iff hs).2 ⟨o0, ho0, hls _ _ h1, fun j hj => hls _ _ (h2 j (hedge i0 o0 ho0 j hj))⟩
      refine ⟨fun h0 => (by rw [h0] at hr0; cases hr0), ?_⟩
      intro i hi
      obtain ⟨o, ho, hli, hp⟩ := (ready_iff hs).1 hi
      have him : i < m := by
        rcases Nat.lt_or_ge i m with h | h
        · exact h
        · exfalso
          apply hfull
          have h3 := tail_all ht hc ho h hp
          intro j
          cases hlj : ls listed j with
          | true => have := hlm j hlj; simp [this]
          | false =>
            by_cases hjm : j < m
            · have := h3 j (by omega); rw [hlj] at this; cases this
            · simp [hjm]
      have hoi : os[i]? = some o := by rw [hosget i him]; exact ho
      obtain ⟨v, hv⟩ : ∃ v, vs[i]? = some v := ⟨_, List.getElem?_eq_getElem (by omega)⟩
      have hcl1 : ∀ (j : Nat) (o' : Oper), os[j]? = some o' → ls listed j = true → ∀ k ∈ dpreds o', ls listed k = true := fun j o' h1 h2 => hc j o' (by
        have hjm : j < m := by
          rw [hos, List.getElem?_take] at h1
          split at h1
          · assumption
          · cases h1
        rw [← hosget j hjm]; exact h1) h2
      have next : ∀ ρ' F' a' w', Inv ⟨st.n, st.t, hW W (upd (ls listed) i) st.h⟩ os (vW W (upd (ls listed) i) os vs) (upd (ls listed) i) ρ' F' a' w' → Fr ρ F w ρ' F' w' → wpAny P .any ops Q fuel (listed.setIfInBounds i true) a' w' := by
        intro ρ' F' a' w' hI' hFr'
        have hlt : i < listed.size := by have := (Array.getElem?_eq_some_iff.1 ho).1; omega
        have hset := ls_set hlt
        refine ih (by simpa using hs) ?_ ?_ ?_ (by rw [hset]; exact hI') (hFr.trans hFr')
        · have hb : listed.toList[i]? = some false := by
            have h9 : listed.toList[i]? = some listed[i] := by simp [hlt]
            rw [h9]; congr 1
            have := hls i _ h9
            rw [← this]; exact hli
          have := unl_set hb
          simp only [Array.toList_setIfInBounds]
          omega
        · rw [hset]
          intro j o' ho' hj k hk
          simp only [upd, Bool.or_eq_true, beq_iff_eq] at hj ⊢
          rcases hj with hj | rfl
          · exact .inl (hc j o' ho' hj k hk)
          · rw [ho] at ho'; cases ho'; exact .inl (hp k hk)
        · rw [hset]
          intro j hj
          simp only [upd, Bool.or_eq_true, beq_iff_eq] at hj
          rcases hj with hj | rfl
          · exact hlm j hj
          · exact him
      rcases hfact i o v hoi hv with ⟨hni, hf⟩ | hf
      · -- what is born here is not yet written
        have hv1 : vW1 W (ls listed) o.dst v = v := by
          obtain ⟨x, B⟩ := v
          unfold vW1
          cases hd : o.dst with
          | none => rfl
          | some d =>
            cases B with
            | none => rfl
            | some B =>
              simp only [Option.map_some]
              rw [newB_no]
              intro e he hel
              cases hle : ls listed e.1 with
              | false => rfl
              | true =>
                exfalso
                have hem := hWm e he
                have heo : os[e.1]? = some ops[e.1] := by rw [hosget e.1 hem]; exact Array.getElem?_eq_getElem (by omega)
                obtain ⟨ve, hve⟩ : ∃ v, vs[e.1]? = some v := ⟨_, List.getElem?_eq_getElem (by omega)⟩
                rcases hfact e.1 _ ve heo hve with ⟨h1, _⟩ | ⟨_, _, L, _, _, t, x', y', l, off, u, B0, z, _, _, _, hB, _, _, hmm⟩
                · exact h1 e he rfl
                · have := okW_one ok he hmm rfl
                  have hl' : e.2.1 = l := by rw [this]
                  rw [hel] at hl'
                  rcases hB with hB | ⟨j0, o0, v0, d0, b1, b2, b3, b4, b5, b6⟩
                  · exact hno i o _ d hoi hv hd rfl B0 (by rw [hl']; exact get?_mem hB)
                  · have h3 := lab_inj (hl'.trans b4.symm)
                    subst h3
                    have := dsts_inj hnd hoi b1 hd b3
                    subst this
                    have := hcl1 e.1 _ heo hle i b6
                    rw [hli] at this; cases this
        have hf' : DFact P ⟨st.n, st.t, hV W st.h⟩ ops os (vW W (ls listed) os vs) i o v := by
          unfold DFact at hf ⊢
          have hq : ∀ L, dViewL ⟨st.n, st.t, hV W st.h⟩ os (vW W (ls listed) os vs) L o = dViewL ⟨st.n, st.t, hV W st.h⟩ os vs L o := by
            intro L; simp only [dViewL, partT_vW]
          simp only [hq]
          exact hf
        refine draw_step2 (st := ⟨st.n, st.t, hW W (ls listed) st.h⟩) (h2 := hV W st.h) hnd (fun j o' v' d h1 h2 h3 h4 => ?_) ho hoi (by have := vW_at (W := W) (S := ls listed) hoi hv; rw [hv1] at this; exact this) hli hp hcl1 hV_sub hf' hI ?_
        · obtain ⟨v2, h7, rfl⟩ := vW_of h1 h2
          rw [vW1_some] at h4
          exact hW_key (hno j o' v2 d h1 h7 h3 h4)
        intro ρ' F' a' w' hI' hFr'
        refine next ρ' F' a' w' ?_ hFr'
        rw [hW_off hni, vW_congr (T := ls listed) fun _ _ _ d B _ _ _ _ => newB_off hni]
        exact hI'
      · exact store_stepB ok hnd hno ho hoi hv hli hp hcl1 hf hI next


theorem AW.drawB {P : Program} {id : Nat} {ops : Array Oper} {K : Exit → St → Prop} {st : St} (hmix : P.follows .mixedOrders = true) {W : Wr} (ok : okW W = true) (m : Nat) (hWm : ∀ e ∈ W, e.1 < m) (Ls : List Nat) (vs : List (AV × Option Blk)) (hm : m ≤ ops.size) (hvl : vs.length = m) (ht : tailOk ops m = true)
    (hnd : (dsts (ops.toList.take m)).Nodup) (hLs : ∀ l ∈ newLs (ops.toList.take m) vs, l ∈ Ls)
    (hfact : ∀ (i : Nat) (o : Oper) (v : AV × Option Blk), (ops.toList.take m)[i]? = some o → vs[i]? = some v → DFactB P (st.drops Ls) W ops (ops.toList.take m) vs i o v)
    (hT : AOps P ops (List.range' m (ops.size - m)) (K .normal) (dSt ⟨(st.drops Ls).n, (st.drops Ls).t, hW W (fun _ => true) (st.drops Ls).h⟩ (ops.toList.take m) (vW W (fun _ => true) (ops.toList.take m) vs) fun _ => true)) : AW P (.region id ops true) K st := by
  intro ρ F a w Q hR hQ
  have hR1 := Rel.drops Ls hR
  have hF1 := Fr.drops (F := F) (w := w) Ls ρ
  refine wp_region_any hmix ?_
  -- one answer drawn
  have hw1 : Rel (rdels ρ Ls) F (st.drops Ls) a { w with drawn := w.drawn + 1 } :=
    ⟨⟨fun l B hB => by
        rcases hR1.heap.blk l B hB with h | ⟨r, m, c, h1, h2, h3, us, h4, h5⟩
        · exact .inl h
        · exact .inr ⟨r, m, c, h1, h2, h3, us, VRs.keep (w := w) (w' := { w with drawn := w.drawn + 1 }) (fun _ h => h) (fun _ _ _ _ h => h) (fun _ _ h => h) _ _ h4, h5⟩, hR1.heap.inj, hR1.heap.apart, hR1.heap.lt, hR1.heap.flt, hR1.heap.glb⟩, hR1.size, hR1.defers,
      fun t v hv => ⟨(hR1.tmps t v hv).1, VR.keep (w := w) (w' := { w with drawn := w.drawn + 1 }) (fun _ h => h) (fun _ _ _ _ h => h) (fun _ _ h => h) _ _ (hR1.tmps t v hv).2⟩⟩
  have hFd : Fr ρ F w (rdels ρ Ls) F { w with drawn := w.drawn + 1 } :=
    ⟨rfl, rfl, rfl, Nat.le_refl _, fun _ _ _ => rfl, hF1.froz, hF1.froz', hF1.own, hF1.same, hF1.gone⟩
  refine draw_anyB (st := st.drops Ls) (K := K .normal) (ρ0 := ρ) (F0 := F) (w0 := w) ok hWm rfl hm hvl ht hnd ?_ hfact hT (fun st' ρ' F' a' w' h1 h2 h3 => hQ _ st' ρ' F' a' w' h1 h2 h3) ops.size (ρ := rdels ρ Ls) (F := F) (by simp) ?_ ?_ ?_ ?_ hFd
  · intro j o' v' d h1 h2 h3 h4
    exact drops_h (.inl (hLs _ (newLs_mem h1 h2 h3 h4)))
  · have : ∀ n, unl (List.replicate n false) = n := by
      intro n; induction n with
      | zero => rfl
      | succ n ih => simp [List.replicate_succ, unl, ih, Nat.add_comm]
    simp [this]
  · intro i o ho hi
    simp [ls, Array.getD_eq_getD_getElem?, Array.getElem?_replicate] at hi
    split at hi <;> simp at hi
  · intro i hi
    simp [ls, Array.getD_eq_getD_getElem?, Array.getElem?_replicate] at hi
    split at hi <;> simp at hi
  · have hf : ls (Array.replicate ops.size false) = fun _ => false := by
      funext i
      simp only [ls, Array.getD_eq_getD_getElem?, Array.getElem?_replicate]
      split <;> rfl
    rw [hf]
    rw [hW_none]
    refine ⟨hw1.subset rfl ?_ ?_, ?_⟩
    · intro p hp
      simp only [dSt, List.mem_append] at hp
      rcases hp with hp | hp
      · obtain ⟨i, o, v, _, _, h3, _⟩ := mem_partT.1 hp; cases h3
      · exact (mem_dropTs hp).1
    · intro p hp
      simp only [dSt, List.mem_append] at hp
      rcases hp with hp | hp
      · obtain ⟨i, o, v, d, _, _, h3, _⟩ := mem_partH.1 hp; cases h3
      · exact hp
    · intro i o v d h1 h2 _ h4 h5
      obtain ⟨v2, h7, rfl⟩ := vW_of h1 h2
      rw [vW1_some] at h5
      exact rdels_none (.inl (hLs _ (newLs_mem h1 h7 h4 h5)))

/-- as far as the values say, the region may be walked -/
def ADB (P : Program) (id : Nat) (ops : Array Oper) (W : Wr) (m : Nat) (Ls : List Nat) (K : Exit → St → Prop) (st : St) (vs : List (AV × Option Blk)) : Prop :=
  (∀ l ∈ newLs (ops.toList.take m) vs, l ∈ Ls) → (∀ (i : Nat) (o : Oper) (v : AV × Option Blk), (ops.toList.take m)[i]? = some o → vs[i]? = some v → DFactB P (st.drops Ls) W ops (ops.toList.take m) vs i o v) → AW P (.region id ops true) K st

theorem ADB.snoc {P id ops W m Ls K st vs} {o : Oper} {v : AV × Option Blk} (he : edgesOk 0 ops.toList = true) (ho : (ops.toList.take m)[vs.length]? = some o) (hl : lOk Ls o.dst v.2 = true)
    (hf : DFactB P (st.drops Ls) W ops (ops.toList.take m) vs vs.length o v) (h : ADB P id ops W m Ls K st (vs ++ [v])) : ADB P id ops W m Ls K st vs := by
  intro hls hfs
  have hview : ∀ (i : Nat) (o' : Oper), (ops.toList.take m)[i]? = some o' → i ≤ vs.length → ∀ L, dViewL ⟨(st.drops Ls).n, (st.drops Ls).t, hV W (st.drops Ls).h⟩ (ops.toList.take m) (vs ++ [v]) L o' = dViewL ⟨(st.drops Ls).n, (st.drops Ls).t, hV W (st.drops Ls).h⟩ (ops.toList.take m) vs L o' := by
    intro i o' ho' hi L
    simp only [dViewL]
    rw [partT_snoc]
    simp only [Nat.zero_add, List.contains_eq_mem, decide_eq_false_iff_not]
    intro hmem
    have h1 : ops.toList[i]? = some o' := by
      rw [List.getElem?_take] at ho'
      split at ho'
      · exact ho'
      · cases ho'
    have := edgesOk_lt he i o' h1 _ hmem
    omega
  refine h ?_ ?_
  · intro l hmem
    rw [newLs_snoc ho] at hmem
    rcases List.mem_append.1 hmem with hmem | hmem
    · exact hls l hmem
    · cases hd : o.dst <;> cases hB : v.2 <;> simp only [hd, hB, mkL, lOk] at hmem hl <;> try (cases hmem; done)
      simp only [List.mem_singleton] at hmem
      subst hmem
      simpa using hl
  · intro i o' v' ho' hv'
    have hi : i ≤ vs.length := by
      have := (List.getElem?_eq_some_iff.1 hv').1
      simp at this; omega
    have key : ∀ v'', DFactB P (st.drops Ls) W ops (ops.toList.take m) vs i o' v'' → DFactB P (st.drops Ls) W ops (ops.toList.take m) (vs ++ [v]) i o' v'' := by
      intro v'' hd
      unfold DFactB DFact SFactB at hd ⊢
      simp only [hview i o' ho' hi]
      rcases hd with hd | ⟨a1, a2, L, a3, a4, t, x, y, l, off, u, B, z, a5, a6, a7, hB, a8⟩
      · exact .inl hd
      · refine .inr ⟨a1, a2, L, a3, a4, t, x, y, l, off, u, B, z, a5, a6, a7, ?_, a8⟩
        rcases hB with hB | ⟨j0, o0, v0, d0, b1, b2, b3⟩
        · exact .inl hB
        · exact .inr ⟨j0, o0, v0, d0, b1, by rw [List.getElem?_append_left (List.getElem?_eq_some_iff.1 b2).1]; exact b2, b3⟩
    by_cases hlt : i < vs.length
    · rw [List.getElem?_append_left hlt] at hv'
      exact key v' (hfs i o' v' ho' hv')
    · have hie : i = vs.length := by omega
      subst hie
      rw [List.getElem?_append_right (Nat.le_refl _)] at hv'
      simp at hv'
      subst hv'
      rw [ho] at ho'
      cases ho'
      exact key _ hf



/-- the rest of what may stand in any order, with writes -/
def ADLB (P : Program) (id : Nat) (ops : Array Oper) (W : Wr) (m : Nat) (Ls : List Nat) (K : Exit → St → Prop) (st : St) (pre : List Oper) (st1 : St) (base : List (Nat × AV)) (os : List Oper) (vs : List (AV × Option Blk)) : Prop :=
  drawOk ops m = true → pre = ops.toList.take m → st1 = ⟨(st.drops Ls).n, (st.drops Ls).t, hV W (st.drops Ls).h⟩ → base = dropTs (dsts pre) st1.t → pre.drop vs.length = os → ADB P id ops W m Ls K st vs
theorem ADLB.pure {P : Program} {id : Nat} {ops : Array Oper} {W : Wr} {m : Nat} {Ls : List Nat} {K : Exit → St → Prop} {st : St} {pre : List Oper} {st1 : St} {base : List (Nat × AV)} {o : Oper} {os : List Oper} {vs : List (AV × Option Blk)} {v : AV × Option Blk}
    (hoff : offW W vs.length = true) (hr : dStepL P st.n ops.toList Ls (dVw st1 pre base vs o) o = some v) (h : ADLB P id ops W m Ls K st pre st1 base os (vs ++ [v])) : ADLB P id ops W m Ls K st pre st1 base (o :: os) vs := by
  intro hok hpre hst hbase hos
  have h' := h hok hpre hst hbase (by rw [List.length_append, List.length_singleton, ← List.drop_drop, hos]; rfl)
  simp only [drawOk, Bool.and_eq_true, decide_eq_true_eq] at hok
  obtain ⟨he, _⟩ := hok
  have ho : pre[vs.length]? = some o := by
    have := congrArg (·[0]?) hos
    simpa using this
  subst hpre
  have hvw : dVw st1 (ops.toList.take m) base vs o = dViewL ⟨(st.drops Ls).n, (st.drops Ls).t, hV W (st.drops Ls).h⟩ (ops.toList.take m) vs [] o := by
    subst hst hbase
    rw [dVw_eq]
    simp only [dView, dViewL, List.nil_append]
  rw [hvw] at hr
  have hn : (⟨(st.drops Ls).n, (st.drops Ls).t, hV W (st.drops Ls).h⟩ : St).n = st.n := drops_n _ _
  unfold dStepL at hr
  rw [gOkL_eq] at hr
  split at hr
  · rename_i hd hg
    cases hr
    exact ADB.snoc he ho (by cases o.dst <;> simp [lOk]) (.inl ⟨offW_iff hoff, by rw [hn]; exact hd, [], LateOk.nil _ _ _, .inl ⟨hg, rfl⟩⟩) h'
  · rename_i hd hg
    simp only [Option.bind_eq_some_iff] at hr
    obtain ⟨v', hv, hr⟩ := hr
    split at hr
    · rename_i hl
      cases hr
      exact ADB.snoc he ho hl (.inl ⟨offW_iff hoff, by rw [hn]; exact hd, [], LateOk.nil _ _ _, .inr ⟨hg, .inl hv⟩⟩) h'
    · cases hr
  · cases hr
theorem ADLB.callF {P : Program} {id : Nat} {ops : Array Oper} {W : Wr} {m : Nat} {Ls : List Nat} {K : Exit → St → Prop} {st : St} {pre : List Oper} {st1 : St} {base : List (Nat × AV)} {o : Oper} {os : List Oper} {vs vs' : List (AV × Option Blk)} {g : FuncId} {as : List AV} {v : AV}
    (hoff : offW W vs.length = true) (hc : dCallL st.n ops.toList (dVw st1 pre base vs o) o = some (g, as)) (hF : CallF P st1.h as g v) (hcl : callable P g = true)
    (hvs : vs ++ [(v, none)] = vs') (h : ADLB P id ops W m Ls K st pre st1 base os vs') : ADLB P id ops W m Ls K st pre st1 base (o :: os) vs := by
  subst hvs
  intro hok hpre hst hbase hos
  rw [hst] at hF
  have h' := h hok hpre hst hbase (by rw [List.length_append, List.length_singleton, ← List.drop_drop, hos]; rfl)
  simp only [drawOk, Bool.and_eq_true, decide_eq_true_eq] at hok
  obtain ⟨he, _⟩ := hok
  have ho : pre[vs.length]? = some o := by
    have := congrArg (·[0]?) hos
    simpa using this
  subst hpre
  have hvw : dVw st1 (ops.toList.take m) base vs o = dViewL ⟨(st.drops Ls).n, (st.drops Ls).t, hV W (st.drops Ls).h⟩ (ops.toList.take m) vs [] o := by
    subst hst hbase
    rw [dVw_eq]
    simp only [dView, dViewL, List.nil_append]
  rw [hvw] at hc
  unfold dCallL at hc
  rw [gOkL_eq] at hc
  split at hc
  · rename_i hd hg
    exact ADB.snoc he ho (by cases o.dst <;> simp [lOk]) (.inl ⟨offW_iff hoff, by show dOk (st.drops Ls).n o.dst = true; rw [drops_n]; exact hd, [], LateOk.nil _ _ _, .inr ⟨hg, .inr ⟨g, as, hc, hcl, rfl, hF⟩⟩⟩) h'
  · cases hc
theorem ADLB.call {P : Program} {id : Nat} {ops : Array Oper} {W : Wr} {m : Nat} {Ls : List Nat} {K : Exit → St → Prop} {st : St} {pre : List Oper} {st1 : St} {base : List (Nat × AV)} {o : Oper} {os : List Oper} {vs vs' : List (AV × Option Blk)} {g : FuncId} {as : List AV} {v : AV}
    (hoff : offW W vs.length = true) (hc : dCallL st.n ops.toList (dVw st1 pre base vs o) o = some (g, as)) (hF : Fn P g as [] (fun r _ => r = v)) (hcl : callable P g = true) (hfr : frees as = true) (hv : v.free = true)
    (hvs : vs ++ [(v, none)] = vs') (h : ADLB P id ops W m Ls K st pre st1 base os vs') : ADLB P id ops W m Ls K st pre st1 base (o :: os) vs :=
  ADLB.callF hoff hc (.inl ⟨hfr, hv, hF⟩) hcl hvs h
theorem ADLB.callB {P : Program} {id : Nat} {ops : Array Oper} {W : Wr} {m : Nat} {Ls : List Nat} {K : Exit → St → Prop} {st : St} {pre : List Oper} {st1 : St} {base : List (Nat × AV)} {o : Oper} {os : List Oper} {vs vs' : List (AV × Option Blk)} {g : FuncId} {as0 as : List AV} {x : Value} (ls : List (Nat × List AV)) (hls : FrzOk st1.h [] ls)
    (hoff : offW W vs.length = true) (hc : dCallL st.n ops.toList (dVw st1 pre base vs o) o = some (g, as0)) (has : frzL ls as0 = as) (hF : Fn P g as [] (fun r _ => r = .val x)) (hcl : callable P g = true) (hfr : frees as = true)
    (hvs : vs ++ [(.val x, none)] = vs') (h : ADLB P id ops W m Ls K st pre st1 base os vs') : ADLB P id ops W m Ls K st pre st1 base (o :: os) vs :=
  ADLB.callF hoff hc (.inr ⟨ls, x, rfl, hls, by rw [has]; exact hfr, by rw [has]; exact hF⟩) hcl hvs h
/-- a write -/
theorem ADLB.write {P : Program} {id : Nat} {ops : Array Oper} {W : Wr} {m : Nat} {Ls : List Nat} {K : Exit → St → Prop} {st : St} {pre : List Oper} {st1 : St} {base : List (Nat × AV)} {o : Oper} {os : List Oper} {vs vs' : List (AV × Option Blk)} {t l off z : Nat} {x y : Operand} {u : AV} {B B' : Blk}
    (hd : o.dst = none) (hop : o.op = .store t x y) (hg : gOkL ops.toList (dVw st1 pre base vs o) o.guard = some true) (hx : (dVw st1 pre base vs o).eval x = some (.ptr l off)) (hy : (dVw st1 pre base vs o).eval y = some u) (hB : Here (st.drops Ls) (ops.toList.take m) vs o l B) (hz : tSz P t = some z)
    (hc : u.fits = true ∧ u.cells.length = z ∧ 0 < z ∧ off + z ≤ B.cs.length ∧ (B.boxy = false → frees u.cells = true)) (hB' : ({ B with cs := splice off u.cells B.cs } : Blk) = B') (hm : (vs.length, l, B') ∈ W)
    (hvs : vs ++ [(.dead, none)] = vs') (h : ADLB P id ops W m Ls K st pre st1 base os vs') : ADLB P id ops W m Ls K st pre st1 base (o :: os) vs := by
  subst hvs hB'
  intro hok hpre hst hbase hos
  have h' := h hok hpre hst hbase (by rw [List.length_append, List.length_singleton, ← List.drop_drop, hos]; rfl)
  simp only [drawOk, Bool.and_eq_true, decide_eq_true_eq] at hok
  obtain ⟨he, _⟩ := hok
  have ho : pre[vs.length]? = some o := by
    have := congrArg (·[0]?) hos
    simpa using this
  subst hpre
  have hvw : dVw st1 (ops.toList.take m) base vs o = dViewL ⟨(st.drops Ls).n, (st.drops Ls).t, hV W (st.drops Ls).h⟩ (ops.toList.take m) vs [] o := by
    subst hst hbase
    rw [dVw_eq]
    simp only [dView, dViewL, List.nil_append]
  rw [hvw] at hx hy hg
  rw [gOkL_eq] at hg
  exact ADB.snoc he ho (by rw [hd]; rfl) (.inr ⟨hd, rfl, [], LateOk.nil _ _ _, hg, t, x, y, l, off, u, B, z, hop, hx, hy, hB, hz, hc, hm⟩) h'
theorem AW.drwB {P : Program} {id : Nat} {ops : Array Oper} {K : Exit → St → Prop} {st st1 : St} {base : List (Nat × AV)} {pre : List Oper} (W : Wr) (m : Nat) (Ls : List Nat) (hok : drawOk ops m = true)
    (hst : (⟨(st.drops Ls).n, (st.drops Ls).t, hV W (st.drops Ls).h⟩ : St) = st1)
    (hp : takeL m ops.toList = pre)
    (hb : dropTL (dsts pre) st1.t = base)
    (h : ADLB P id ops W m Ls K st pre st1 base pre []) : AW P (.region id ops true) K st := by
  rw [takeL_eq] at hp
  rw [dropTL_eq] at hb
  subst hp
  refine h hok rfl hst.symm hb.symm rfl ?_ (by intro i o v _ hv; simp at hv)
  intro l hl
  cases hq : ops.toList.take m <;> rw [hq] at hl <;> simp [newLs] at hl
theorem ADLB.done {P : Program} {id : Nat} {ops : Array Oper} {W : Wr} {m : Nat} {Ls : List Nat} {K : Exit → St → Prop} {st : St} {pre : List Oper} {st1 : St} {base t : List (Nat × AV)} {hh : List (Nat × Blk)} {vs : List (AV × Option Blk)} {n : Nat} (hmix : P.follows .mixedOrders = true) (ok : okW W = true) (hWm : (W.all fun e => decide (e.1 < m)) = true) (hlen : vs.length = m)
    (hn : st1.n = n) (ht : insAll base pre vs = t) (hhh : insAllH (hW W (fun _ => true) (st.drops Ls).h) pre (vW W (fun _ => true) pre vs) = hh)
    {os' : List Oper} (hos' : dropL m ops.toList = os') (hT : AOL P ops os' (K .normal) ⟨n, t, hh⟩) : ADLB P id ops W m Ls K st pre st1 base [] vs := by
  intro hok hpre hst hbase hos
  simp only [drawOk, Bool.and_eq_true, decide_eq_true_eq] at hok
  obtain ⟨h1, h2, h3, h4⟩ := hok
  intro hls hfs
  refine AW.drawB hmix ok m (by intro e he; have := List.all_eq_true.1 hWm e he; simpa using this) Ls vs h4 hlen h2 (nodupB_iff h3) hls hfs ?_
  rw [dropL_eq] at hos'
  subst hos'
  have hT' := hT m rfl
  rw [List.length_drop, Array.length_toList] at hT'
  refine AOps.sub ?_ hT'
  intro ρ F a w hR
  refine ⟨ρ, F, hR.subset ?_ ?_ ?_, Fr.refl _ _ _⟩
  · subst hst hn; rfl
  · intro p hp
    subst ht
    simp only [dSt, List.mem_append]
    rw [← hpre, dstsS_true, partT_vW]
    have hb : base = dropTs (dsts pre) (st.drops Ls).t := by rw [hbase, hst]
    rw [← hb]
    rcases mem_insAll (i := 0) hp with h | h
    · exact .inl h
    · exact .inr h
  · intro p hp
    subst hhh
    simp only [dSt, List.mem_append]
    rw [← hpre]
    rcases mem_insAllH (i := 0) hp with h | h
    · exact .inl h
    · exact .inr h
theorem ADLB.d1 {P : Program} {id : Nat} {ops : Array Oper} {W : Wr} {m : Nat} {Ls : List Nat} {K : Exit → St → Prop} {st : St} {pre : List Oper} {st1 : St} {base : List (Nat × AV)} {o : Oper} {os : List Oper} {vs vs' : List (AV × Option Blk)} {v : AV × Option Blk}
    (hoff : offW W vs.length = true := by exact rfl)
    (hr : dStepL P st.n ops.toList Ls (dVw st1 pre base vs o) o = some v := by
      simp only [dRunK, dStepL, dVw, pickT, predsL, inL, dEval, lOk, runK, stepL, memOp, pureOp, gOkL, dstAt, dOk, St.eval, St.evalO, get?, St.put, ins, del, AV.ofV, aBinAll, aBin, aBinI, aBinA, csEq, cEq, rI, isC, aUn, aConv, aStr, nums_by8, aIface, aNil, aCallB, aLen, aMinMax, intOf?, bnd, Go.Proofs.YtjeafkodcmbabaaDoor.E.ld, Go.Proofs.YtjeafkodcmbabaaDoor.E.part, Go.Proofs.YtjeafkodcmbabaaDoor.E.takeAgg_tk, Go.Proofs.YtjeafkodcmbabaaDoor.E.tk, aFieldAddr, aIndexAddr, aField, aIndex, aBuildSlice, cBuild, aAlloc, aStore, aApp, srcCells, aFill, mapM?, St.parts, St.new, St.drop, mapT, mapH, kill, kills, AV.cells, AV.fits, AV.one, AV.free, frees, splice, cyc, lab, Value.oneCell', Value.cells, Option.bind_some, Option.map_some, Option.bind_none, Option.map_none, decide_true, decide_false, if_true, if_false, reduceIte, reduceCtorEq, Bool.false_eq_true, Nat.reduceLT, Nat.reduceEqDiff, Nat.reduceAdd, Nat.reduceMul, Nat.reduceLeDiff, Nat.reduceSub, Nat.zero_add, Nat.add_zero, Nat.zero_mul, Nat.one_mul, Nat.mul_one, Int.toNat_natCast, Int.toNat_zero, List.drop_succ_cons, List.drop_zero, List.take_succ_cons, List.take_zero, List.length_cons, List.length_nil, List.head?_cons, List.map_cons, List.map_nil, List.all_cons, List.all_nil, List.cons_append, List.nil_append, List.append_nil, List.set_cons_zero, List.set_cons_succ, List.getElem?_cons_zero, List.getElem?_cons_succ, Bool.not_true, Bool.not_false, beq_true, beq_false, Bool.true_beq, Bool.false_beq, Bool.and_self, Bool.and_true, Bool.true_and, and_self, and_true, true_and, false_implies, true_implies, implies_true, bne_self_eq_false, beq_self_eq_true, Option.isSome_some, List.all, *]
      exact rfl)
    (hvs : vs ++ [v] = vs' := by simp only [List.cons_append, List.nil_append]; exact rfl)
    (h : ADLB P id ops W m Ls K st pre st1 base os vs') : ADLB P id ops W m Ls K st pre st1 base (o :: os) vs := by
  subst hvs; exact ADLB.pure hoff hr h
theorem ADLB.st {P : Program} {id : Nat} {ops : Array Oper} {W : Wr} {m : Nat} {Ls : List Nat} {K : Exit → St → Prop} {st : St} {pre : List Oper} {st1 : St} {base : List (Nat × AV)} {o : Oper} {os : List Oper} {vs vs' : List (AV × Option Blk)} {t l off z : Nat} {x y : Operand} {u : AV} {B B' : Blk}
    (hd : o.dst = none := by exact rfl) (hop : o.op = .store t x y := by exact rfl) (hg : gOkL ops.toList (dVw st1 pre base vs o) o.guard = some true := by exact rfl)
    (hx : (dVw st1 pre base vs o).eval x = some (.ptr l off) := by
      simp only [dRunK, dStepL, dVw, pickT, predsL, inL, dEval, lOk, runK, stepL, memOp, pureOp, gOkL, dstAt, dOk, St.eval, St.evalO, get?, St.put, ins, del, AV.ofV, aBinAll, aBin, aBinI, aBinA, csEq, cEq, rI, isC, aUn, aConv, aStr, nums_by8, aIface, aNil, aCallB, aLen, aMinMax, intOf?, bnd, Go.Proofs.YtjeafkodcmbabaaDoor.E.ld, Go.Proofs.YtjeafkodcmbabaaDoor.E.part, Go.Proofs.YtjeafkodcmbabaaDoor.E.takeAgg_tk, Go.Proofs.YtjeafkodcmbabaaDoor.E.tk, aFieldAddr, aIndexAddr, aField, aIndex, aBuildSlice, cBuild, aAlloc, aStore, aApp, srcCells, aFill, mapM?, St.parts, St.new, St.drop, mapT, mapH, kill, kills, AV.cells, AV.fits, AV.one, AV.free, frees, splice, cyc, lab, Value.oneCell', Value.cells, Option.bind_some, Option.map_some, Option.bind_none, Option.map_none, decide_true, decide_false, if_true, if_false, reduceIte, reduceCtorEq, Bool.false_eq_true, Nat.reduceLT, Nat.reduceEqDiff, Nat.reduceAdd, Nat.reduceMul, Nat.reduceLeDiff, Nat.reduceSub, Nat.zero_add, Nat.add_zero, Nat.zero_mul, Nat.one_mul, Nat.mul_one, Int.toNat_natCast, Int.toNat_zero, List.drop_succ_cons, List.drop_zero, List.take_succ_cons, List.take_zero, List.length_cons, List.length_nil, List.head?_cons, List.map_cons, List.map_nil, List.all_cons, List.all_nil, List.cons_append, List.nil_append, List.append_nil, List.set_cons_zero, List.set_cons_succ, List.getElem?_cons_zero, List.getElem?_cons_succ, Bool.not_true, Bool.not_false, beq_true, beq_false, Bool.true_beq, Bool.false_beq, Bool.and_self, Bool.and_true, Bool.true_and, and_self, and_true, true_and, false_implies, true_implies, implies_true, bne_self_eq_false, beq_self_eq_true, Option.isSome_some, List.all, *]
      exact rfl)
    (hy : (dVw st1 pre base vs o).eval y = some u := by
      simp only [dRunK, dStepL, dVw, pickT, predsL, inL, dEval, lOk, runK, stepL, memOp, pureOp, gOkL, dstAt, dOk, St.eval, St.evalO, get?, St.put, ins, del, AV.ofV, aBinAll, aBin, aBinI, aBinA, csEq, cEq, rI, isC, aUn, aConv, aStr, nums_by8, aIface, aNil, aCallB, aLen, aMinMax, intOf?, bnd, Go.Proofs.YtjeafkodcmbabaaDoor.E.ld, Go.Proofs.YtjeafkodcmbabaaDoor.E.part, Go.Proofs.YtjeafkodcmbabaaDoor.E.takeAgg_tk, Go.Proofs.YtjeafkodcmbabaaDoor.E.tk, aFieldAddr, aIndexAddr, aField, aIndex, aBuildSlice, cBuild, aAlloc, aStore, aApp, srcCells, aFill, mapM?, St.parts, St.new, St.drop, mapT, mapH, kill, kills, AV.cells, AV.fits, AV.one, AV.free, frees, splice, cyc, lab, Value.oneCell', Value.cells, Option.bind_some, Option.map_some, Option.bind_none, Option.map_none, decide_true, decide_false, if_true, if_false, reduceIte, reduceCtorEq, Bool.false_eq_true, Nat.reduceLT, Nat.reduceEqDiff, Nat.reduceAdd, Nat.reduceMul, Nat.reduceLeDiff, Nat.reduceSub, Nat.zero_add, Nat.add_zero, Nat.zero_mul, Nat.one_mul, Nat.mul_one, Int.toNat_natCast, Int.toNat_zero, List.drop_succ_cons, List.drop_zero, List.take_succ_cons, List.take_zero, List.length_cons, List.length_nil, List.head?_cons, List.map_cons, List.map_nil, List.all_cons, List.all_nil, List.cons_append, List.nil_append, List.append_nil, List.set_cons_zero, List.set_cons_succ, List.getElem?_cons_zero, List.getElem?_cons_succ, Bool.not_true, Bool.not_false, beq_true, beq_false, Bool.true_beq, Bool.false_beq, Bool.and_self, Bool.and_true, Bool.true_and, and_self, and_true, true_and, false_implies, true_implies, implies_true, bne_self_eq_false, beq_self_eq_true, Option.isSome_some, List.all, *]
      exact rfl)
    (hB : get? l (st.drops Ls).h = some B := by simp only [St.drops, St.drop, mapT, mapH, kill, kills, del, get?, reduceIte, Nat.reduceEqDiff]; exact rfl) (hz : tSz P t = some z := by simp only [*]; exact rfl)
    (hc : u.fits = true ∧ u.cells.length = z ∧ 0 < z ∧ off + z ≤ B.cs.length ∧ (B.boxy = false → frees u.cells = true) := by
      simp only [dRunK, dStepL, dVw, pickT, predsL, inL, dEval, lOk, runK, stepL, memOp, pureOp, gOkL, dstAt, dOk, St.eval, St.evalO, get?, St.put, ins, del, AV.ofV, aBinAll, aBin, aBinI, aBinA, csEq, cEq, rI, isC, aUn, aConv, aStr, nums_by8, aIface, aNil, aCallB, aLen, aMinMax, intOf?, bnd, Go.Proofs.YtjeafkodcmbabaaDoor.E.ld, Go.Proofs.YtjeafkodcmbabaaDoor.E.part, Go.Proofs.YtjeafkodcmbabaaDoor.E.takeAgg_tk, Go.Proofs.YtjeafkodcmbabaaDoor.E.tk, aFieldAddr, aIndexAddr, aField, aIndex, aBuildSlice, cBuild, aAlloc, aStore, aApp, srcCells, aFill, mapM?, St.parts, St.new, St.drop, mapT, mapH, kill, kills, AV.cells, AV.fits, AV.one, AV.free, frees, splice, cyc, lab, Value.oneCell', Value.cells, Option.bind_some, Option.map_some, Option.bind_none, Option.map_none, decide_true, decide_false, if_true, if_false, reduceIte, reduceCtorEq, Bool.false_eq_true, Nat.reduceLT, Nat.reduceEqDiff, Nat.reduceAdd, Nat.reduceMul, Nat.reduceLeDiff, Nat.reduceSub, Nat.zero_add, Nat.add_zero, Nat.zero_mul, Nat.one_mul, Nat.mul_one, Int.toNat_natCast, Int.toNat_zero, List.drop_succ_cons, List.drop_zero, List.take_succ_cons, List.take_zero, List.length_cons, List.length_nil, List.head?_cons, List.map_cons, List.map_nil, List.all_cons, List.all_nil, List.cons_append, List.nil_append, List.append_nil, List.set_cons_zero, List.set_cons_succ, List.getElem?_cons_zero, List.getElem?_cons_succ, Bool.not_true, Bool.not_false, beq_true, beq_false, Bool.true_beq, Bool.false_beq, Bool.and_self, Bool.and_true, Bool.true_and, and_self, and_true, true_and, false_implies, true_implies, implies_true, bne_self_eq_false, beq_self_eq_true, Option.isSome_some, List.all, *])
    (hB' : ({ B with cs := splice off u.cells B.cs } : Blk) = B' := by simp only [splice, AV.cells, *]; exact rfl) (hm : (vs.length, l, B') ∈ W := by first | exact List.mem_cons_self | exact List.mem_cons_of_mem _ List.mem_cons_self)
    (hvs : vs ++ [(.dead, none)] = vs' := by simp only [List.cons_append, List.nil_append]; exact rfl)
    (h : ADLB P id ops W m Ls K st pre st1 base os vs') : ADLB P id ops W m Ls K st pre st1 base (o :: os) vs := ADLB.write hd hop hg hx hy (.inl hB) hz hc hB' hm hvs h
theorem ADLB.sb {P : Program} {id : Nat} {ops : Array Oper} {W : Wr} {m : Nat} {Ls : List Nat} {K : Exit → St → Prop} {st : St} {pre : List Oper} {st1 : St} {base : List (Nat × AV)} {o : Oper} {os : List Oper} {vs vs' : List (AV × Option Blk)} {t l off z : Nat} {x y : Operand} {u : AV} {B B' : Blk}
    (j : Nat) {o' : Oper} {v' : AV × Option Blk} {d : Tmp} (hd : o.dst = none := by exact rfl) (hop : o.op = .store t x y := by exact rfl) (hg : gOkL ops.toList (dVw st1 pre base vs o) o.guard = some true := by exact rfl)
    (hx : (dVw st1 pre base vs o).eval x = some (.ptr l off) := by
      simp only [dRunK, dStepL, dVw, pickT, predsL, inL, dEval, lOk, runK, stepL, memOp, pureOp, gOkL, dstAt, dOk, St.eval, St.evalO, get?, St.put, ins, del, AV.ofV, aBinAll, aBin, aBinI, aBinA, csEq, cEq, rI, isC, aUn, aConv, aStr, nums_by8, aIface, aNil, aCallB, aLen, aMinMax, intOf?, bnd, Go.Proofs.YtjeafkodcmbabaaDoor.E.ld, Go.Proofs.YtjeafkodcmbabaaDoor.E.part, Go.Proofs.YtjeafkodcmbabaaDoor.E.takeAgg_tk, Go.Proofs.YtjeafkodcmbabaaDoor.E.tk, aFieldAddr, aIndexAddr, aField, aIndex, aBuildSlice, cBuild, aAlloc, aStore, aApp, srcCells, aFill, mapM?, St.parts, St.new, St.drop, mapT, mapH, kill, kills, AV.cells, AV.fits, AV.one, AV.free, frees, splice, cyc, lab, Value.oneCell', Value.cells, Option.bind_some, Option.map_some, Option.bind_none, Option.map_none, decide_true, decide_false, if_true, if_false, reduceIte, reduceCtorEq, Bool.false_eq_true, Nat.reduceLT, Nat.reduceEqDiff, Nat.reduceAdd, Nat.reduceMul, Nat.reduceLeDiff, Nat.reduceSub, Nat.zero_add, Nat.add_zero, Nat.zero_mul, Nat.one_mul, Nat.mul_one, Int.toNat_natCast, Int.toNat_zero, List.drop_succ_cons, List.drop_zero, List.take_succ_cons, List.take_zero, List.length_cons, List.length_nil, List.head?_cons, List.map_cons, List.map_nil, List.all_cons, List.all_nil, List.cons_append, List.nil_append, List.append_nil, List.set_cons_zero, List.set_cons_succ, List.getElem?_cons_zero, List.getElem?_cons_succ, Bool.not_true, Bool.not_false, beq_true, beq_false, Bool.true_beq, Bool.false_beq, Bool.and_self, Bool.and_true, Bool.true_and, and_self, and_true, true_and, false_implies, true_implies, implies_true, bne_self_eq_false, beq_self_eq_true, Option.isSome_some, List.all, *]
      exact rfl)
    (hy : (dVw st1 pre base vs o).eval y = some u := by
      simp only [dRunK, dStepL, dVw, pickT, predsL, inL, dEval, lOk, runK, stepL, memOp, pureOp, gOkL, dstAt, dOk, St.eval, St.evalO, get?, St.put, ins, del, AV.ofV, aBinAll, aBin, aBinI, aBinA, csEq, cEq, rI, isC, aUn, aConv, aStr, nums_by8, aIface, aNil, aCallB, aLen, aMinMax, intOf?, bnd, Go.Proofs.YtjeafkodcmbabaaDoor.E.ld, Go.Proofs.YtjeafkodcmbabaaDoor.E.part, Go.Proofs.YtjeafkodcmbabaaDoor.E.takeAgg_tk, Go.Proofs.YtjeafkodcmbabaaDoor.E.tk, aFieldAddr, aIndexAddr, aField, aIndex, aBuildSlice, cBuild, aAlloc, aStore, aApp, srcCells, aFill, mapM?, St.parts, St.new, St.drop, mapT, mapH, kill, kills, AV.cells, AV.fits, AV.one, AV.free, frees, splice, cyc, lab, Value.oneCell', Value.cells, Option.bind_some, Option.map_some, Option.bind_none, Option.map_none, decide_true, decide_false, if_true, if_false, reduceIte, reduceCtorEq, Bool.false_eq_true, Nat.reduceLT, Nat.reduceEqDiff, Nat.reduceAdd, Nat.reduceMul, Nat.reduceLeDiff, Nat.reduceSub, Nat.zero_add, Nat.add_zero, Nat.zero_mul, Nat.one_mul, Nat.mul_one, Int.toNat_natCast, Int.toNat_zero, List.drop_succ_cons, List.drop_zero, List.take_succ_cons, List.take_zero, List.length_cons, List.length_nil, List.head?_cons, List.map_cons, List.map_nil, List.all_cons, List.all_nil, List.cons_append, List.nil_append, List.append_nil, List.set_cons_zero, List.set_cons_succ, List.getElem?_cons_zero, List.getElem?_cons_succ, Bool.not_true, Bool.not_false, beq_true, beq_false, Bool.true_beq, Bool.false_beq, Bool.and_self, Bool.and_true, Bool.true_and, and_self, and_true, true_and, false_implies, true_implies, implies_true, bne_self_eq_false, beq_self_eq_true, Option.isSome_some, List.all, *]
      exact rfl)
    (g1 : pre[j]? = some o' := by exact rfl) (g2 : vs[j]? = some v' := by exact rfl) (g3 : o'.dst = some d := by exact rfl) (g4 : lab d = l := by exact rfl) (g5 : v'.2 = some B := by exact rfl) (g6 : j ∈ dpreds o := by decide)
    (hz : tSz P t = some z := by simp only [*]; exact rfl)
    (hc : u.fits = true ∧ u.cells.length = z ∧ 0 < z ∧ off + z ≤ B.cs.length ∧ (B.boxy = false → frees u.cells = true) := by
      simp only [dRunK, dStepL, dVw, pickT, predsL, inL, dEval, lOk, runK, stepL, memOp, pureOp, gOkL, dstAt, dOk, St.eval, St.evalO, get?, St.put, ins, del, AV.ofV, aBinAll, aBin, aBinI, aBinA, csEq, cEq, rI, isC, aUn, aConv, aStr, nums_by8, aIface, aNil, aCallB, aLen, aMinMax, intOf?, bnd, Go.Proofs.YtjeafkodcmbabaaDoor.E.ld, Go.Proofs.YtjeafkodcmbabaaDoor.E.part, Go.Proofs.YtjeafkodcmbabaaDoor.E.takeAgg_tk, Go.Proofs.YtjeafkodcmbabaaDoor.E.tk, aFieldAddr, aIndexAddr, aField, aIndex, aBuildSlice, cBuild, aAlloc, aStore, aApp, srcCells, aFill, mapM?, St.parts, St.new, St.drop, mapT, mapH, kill, kills, AV.cells, AV.fits, AV.one, AV.free, frees, splice, cyc, lab, Value.oneCell', Value.cells, Option.bind_some, Option.map_some, Option.bind_none, Option.map_none, decide_true, decide_false, if_true, if_false, reduceIte, reduceCtorEq, Bool.false_eq_true, Nat.reduceLT, Nat.reduceEqDiff, Nat.reduceAdd, Nat.reduceMul, Nat.reduceLeDiff, Nat.reduceSub, Nat.zero_add, Nat.add_zero, Nat.zero_mul, Nat.one_mul, Nat.mul_one, Int.toNat_natCast, Int.toNat_zero, List.drop_succ_cons, List.drop_zero, List.take_succ_cons, List.take_zero, List.length_cons, List.length_nil, List.head?_cons, List.map_cons, List.map_nil, List.all_cons, List.all_nil, List.cons_append, List.nil_append, List.append_nil, List.set_cons_zero, List.set_cons_succ, List.getElem?_cons_zero, List.getElem?_cons_succ, Bool.not_true, Bool.not_false, beq_true, beq_false, Bool.true_beq, Bool.false_beq, Bool.and_self, Bool.and_true, Bool.true_and, and_self, and_true, true_and, false_implies, true_implies, implies_true, bne_self_eq_false, beq_self_eq_true, Option.isSome_some, List.all, *])
    (hB' : ({ B with cs := splice off u.cells B.cs } : Blk) = B' := by simp only [splice, AV.cells, *]; exact rfl) (hm : (vs.length, l, B') ∈ W := by first | exact List.mem_cons_self | exact List.mem_cons_of_mem _ List.mem_cons_self)
    (hvs : vs ++ [(.dead, none)] = vs' := by simp only [List.cons_append, List.nil_append]; exact rfl)
    (h : ADLB P id ops W m Ls K st pre st1 base os vs') : ADLB P id ops W m Ls K st pre st1 base (o :: os) vs := by
  intro hok hpre
  exact ADLB.write hd hop hg hx hy (.inr ⟨j, o', v', d, by rw [← hpre]; exact g1, g2, g3, g4, g5, g6⟩) hz hc hB' hm hvs h hok hpre
theorem AW.db {P : Program} {id : Nat} {ops : Array Oper} {K : Exit → St → Prop} {st st1 : St} {base : List (Nat × AV)} {pre : List Oper} (W : Wr) (m : Nat) (Ls : List Nat) (hok : drawOk ops m = true)
    (hst : (⟨(st.drops Ls).n, (st.drops Ls).t, hV W (st.drops Ls).h⟩ : St) = st1 := by simp only [St.drops, St.drop, mapT, mapH, kill, kills, del, hV, inW, reduceIte, Nat.reduceEqDiff]; exact rfl)
    (hp : takeL m ops.toList = pre := by simp only [takeL]; exact rfl)
    (hb : dropTL (dsts pre) st1.t = base := by simp only [dsts, dropTL, inL, List.cons_append, List.nil_append, List.append_nil, reduceIte, Nat.reduceEqDiff]; exact rfl)
    (h : ADLB P id ops W m Ls K st pre st1 base pre []) : AW P (.region id ops true) K st := AW.drwB W m Ls hok hst hp hb h
theorem ADLB.fin {P : Program} {id : Nat} {ops : Array Oper} {W : Wr} {m : Nat} {Ls : List Nat} {K : Exit → St → Prop} {st : St} {pre : List Oper} {st1 : St} {base t : List (Nat × AV)} {hh : List (Nat × Blk)} {vs : List (AV × Option Blk)} {n : Nat} (hmix : P.follows .mixedOrders = true) (ok : okW W = true) (hWm : (W.all fun e => decide (e.1 < m)) = true) (hlen : vs.length = m)
    (hn : st1.n = n) (ht : insAll base pre vs = t := by simp only [insAll, ins, del, reduceIte, Nat.reduceLT, Nat.reduceEqDiff]; exact rfl) (hhh : insAllH (hW W (fun _ => true) (st.drops Ls).h) pre (vW W (fun _ => true) pre vs) = hh := by simp only [St.drops, St.drop, mapT, mapH, kill, kills, hW, vW, vW1, Option.map_some, Option.map_none, newB, List.map_cons, List.map_nil, insAllH, ins, del, lab, reduceIte, Nat.reduceLT, Nat.reduceEqDiff, Nat.reduceAdd, Nat.reduceMul, Bool.false_eq_true]; exact rfl)
    {os' : List Oper} (hos' : dropL m ops.toList = os' := by simp only [dropL]; exact rfl) (hT : AOL P ops os' (K .normal) ⟨n, t, hh⟩) : ADLB P id ops W m Ls K st pre st1 base [] vs := ADLB.done hmix ok hWm hlen hn ht hhh hos' hT
end Go.Proofs.YtjeafkodcmbabaaDoor.E
