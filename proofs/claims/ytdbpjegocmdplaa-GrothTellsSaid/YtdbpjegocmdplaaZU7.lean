/- Texts joined: ZTEH, ZTGroA, ZTGroB, ZTGroC, ZTGroD, ZTGroE, ZTQapC, ZTQapD. -/
import Derived.Test.YtdbpjegocmdplaaZU6
import Derived.Test.YtdbpjegocmdplaaZU5
import Derived.Test.YtdbpjegocmdplaaProg
import Derived.KernelRfl
section
/- E, a reader of Go's code «as» the model has it: a contract of a function is proved over values that are told without memory (EH). -/

set_option linter.unusedVariables false
set_option linter.unusedSimpArgs false
open Go
namespace Go.Proofs.Ytdbpjegocmdplaa.E
set_option linter.unusedVariables false
set_option linter.unusedSimpArgs false
/-! ## Writes among what may stand in any order, to blocks that are born there too -/
def vW1 (W : Wr) (S : Nat → Bool) (d : Option Tmp) (v : AV × Option Blk) : AV × Option Blk := (v.1, match d with | some d => v.2.map (newB W S (lab d)) | none => v.2)
def vW (W : Wr) (S : Nat → Bool) : List Oper → List (AV × Option Blk) → List (AV × Option Blk)
  | o :: os, v :: vs => vW1 W S o.dst v :: vW W S os vs
  | _, vs => vs
theorem vW_len (W : Wr) (S : Nat → Bool) : ∀ (os : List Oper) (vs : List (AV × Option Blk)), (vW W S os vs).length = vs.length
  | [], _ => by simp only [vW]
  | _ :: _, [] => by simp only [vW]
  | o :: os, v :: vs => by simp only [vW, List.length_cons, vW_len W S os vs]
theorem vW_at {W : Wr} {S : Nat → Bool} : ∀ {os : List Oper} {vs : List (AV × Option Blk)} {i : Nat} {o : Oper} {v : AV × Option Blk}, os[i]? = some o → vs[i]? = some v → (vW W S os vs)[i]? = some (vW1 W S o.dst v)
  | [], _, i, o, v, h, _ => by simp at h
  | _ :: _, [], i, o, v, _, h => by simp at h
  | o' :: os, v' :: vs, 0, o, v, h1, h2 => by simp at h1 h2; subst h1 h2; simp [vW]
  | o' :: os, v' :: vs, i + 1, o, v, h1, h2 => by simp only [vW, List.getElem?_cons_succ] at h1 h2 ⊢; exact vW_at h1 h2
theorem vW_of {W : Wr} {S : Nat → Bool} {os : List Oper} {vs : List (AV × Option Blk)} {i : Nat} {o : Oper} {v' : AV × Option Blk} (h1 : os[i]? = some o) (h2 : (vW W S os vs)[i]? = some v') : ∃ v, vs[i]? = some v ∧ v' = vW1 W S o.dst v := by
  have hl := (List.getElem?_eq_some_iff.1 h2).1
  rw [vW_len] at hl
  have h3 : vs[i]? = some vs[i] := List.getElem?_eq_getElem hl
  refine ⟨_, h3, ?_⟩
  have := vW_at (W := W) (S := S) h1 h3
  rw [h2] at this
  exact Option.some.inj this
theorem vW1_some {W : Wr} {S : Nat → Bool} {d : Option Tmp} {v : AV × Option Blk} : (vW1 W S d v).2.isSome = v.2.isSome := by
  cases d <;> simp [vW1]
theorem partT_vW {W : Wr} {S S' : Nat → Bool} : ∀ (s : Nat) (os : List Oper) (vs : List (AV × Option Blk)), partT S' s os (vW W S os vs) = partT S' s os vs
  | s, [], vs => by simp only [vW]
  | s, _ :: _, [] => by simp only [vW]
  | s, o :: os, v :: vs => by simp only [vW, partT, partT_vW (s + 1) os vs]; rfl
theorem vW_congr {W : Wr} {S T : Nat → Bool} : ∀ {os : List Oper} {vs : List (AV × Option Blk)}, (∀ (i : Nat) (o : Oper) (v : AV × Option Blk) (d : Tmp) (B : Blk), os[i]? = some o → vs[i]? = some v → o.dst = some d → v.2 = some B → newB W S (lab d) B = newB W T (lab d) B) → vW W S os vs = vW W T os vs
  | [], _, _ => by simp only [vW]
  | _ :: _, [], _ => by simp only [vW]
  | o :: os, v :: vs, h => by
    simp only [vW]
    congr 1
    · unfold vW1
      cases hd : o.dst with
      | none => rfl
      | some d =>
        cases hB : v.2 with
        | none => rfl
        | some B => simp only [Option.map_some]; rw [h 0 o v d B (by simp) (by simp) hd hB]
    · exact vW_congr fun i o' v' d B h1 h2 => h (i + 1) o' v' d B (by simpa using h1) (by simpa using h2)
theorem newB_no {W : Wr} {S : Nat → Bool} {l : Nat} {B : Blk} (h : ∀ e ∈ W, e.2.1 = l → S e.1 = false) : newB W S l B = B := by
  induction W with
  | nil => rfl
  | cons e r ih =>
    simp only [newB]
    split
    · rename_i he; rw [h e (by simp) he]; simp
    · exact ih fun x hx => h x (List.mem_cons_of_mem _ hx)
theorem okW_one : ∀ {W : Wr}, okW W = true → ∀ {a b : Nat × Nat × Blk}, a ∈ W → b ∈ W → a.1 = b.1 → a = b
  | [], _, a, b, h, _, _ => by cases h
  | e :: r, ok, a, b, ha, hb, hab => by
    simp only [okW, Bool.and_eq_true, List.all_eq_true, decide_eq_true_eq] at ok
    rcases List.mem_cons.1 ha with h1 | h1 <;> rcases List.mem_cons.1 hb with h2 | h2
    · rw [h1, h2]
    · rw [h1] at hab; exact absurd hab.symm (ok.1 _ h2).1
    · rw [h2] at hab; exact absurd hab (ok.1 _ h1).1
    · exact okW_one ok.2 h1 h2 hab
theorem get?_only {α : Type} {l : Nat} {x : α} : ∀ {L : List (Nat × α)}, (l, x) ∈ L → (∀ C, (l, C) ∈ L → C = x) → get? l L = some x
  | (k, y) :: r, h, hu => by
    simp only [get?]
    split
    · rename_i e; subst e; rw [hu y (by simp)]
    · rename_i e
      refine get?_only ?_ fun C hC => hu C (List.mem_cons_of_mem _ hC)
      rcases List.mem_cons.1 h with h | h
      · cases h; exact absurd rfl e
      · exact h
/-- the block that is written: one of old, or one that was born here -/
def Here (st : St) (os : List Oper) (vs : List (AV × Option Blk)) (o : Oper) (l : Nat) (B : Blk) : Prop :=
  get? l st.h = some B ∨ ∃ (j : Nat) (o' : Oper) (v' : AV × Option Blk) (d : Tmp), os[j]? = some o' ∧ vs[j]? = some v' ∧ o'.dst = some d ∧ lab d = l ∧ v'.2 = some B ∧ j ∈ dpreds o
/-- a write among what may stand in any order -/
def SFactB (P : Program) (st : St) (W : Wr) (ops : Array Oper) (os : List Oper) (vs : List (AV × Option Blk)) (i : Nat) (o : Oper) (v : AV × Option Blk) : Prop :=
  o.dst = none ∧ v = (.dead, none) ∧ ∃ L, LateOk st os i L ∧ gOk ops (dViewL ⟨st.n, st.t, hV W st.h⟩ os vs L o) o = some true ∧
    ∃ t x y l off u B z, o.op = .store t x y ∧ (dViewL ⟨st.n, st.t, hV W st.h⟩ os vs L o).eval x = some (.ptr l off) ∧ (dViewL ⟨st.n, st.t, hV W st.h⟩ os vs L o).eval y = some u ∧ Here st os vs o l B ∧ tSz P t = some z ∧
      (u.fits = true ∧ u.cells.length = z ∧ 0 < z ∧ off + z ≤ B.cs.length ∧ (B.boxy = false → frees u.cells = true)) ∧ (i, l, { B with cs := splice off u.cells B.cs }) ∈ W
def DFactB (P : Program) (st : St) (W : Wr) (ops : Array Oper) (os : List Oper) (vs : List (AV × Option Blk)) (i : Nat) (o : Oper) (v : AV × Option Blk) : Prop :=
  ((∀ e ∈ W, e.1 ≠ i) ∧ DFact P ⟨st.n, st.t, hV W st.h⟩ ops os vs i o v) ∨ SFactB P st W ops os vs i o v

theorem store_stepB {P : Program} {ops : Array Oper} {st : St} {W : Wr} {os : List Oper} {vs : List (AV × Option Blk)} {S : Nat → Bool} {ρ : Rho} {F : Nat → Prop} {a : Act} {w : World} {i : Nat} {o : Oper} {v : AV × Option Blk}
    (ok : okW W = true) (hnd : (dsts os).Nodup) (hno : ∀ (j : Nat) (o' : Oper) (v' : AV × Option Blk) (d : Tmp), os[j]? = some o' → vs[j]? = some v' → o'.dst = some d → v'.2.isSome = true → ∀ C, (lab d, C) ∉ st.h)
    (ho' : ops[i]? = some o) (ho : os[i]? = some o) (hv : vs[i]? = some v) (hS : S i = false) (hp : ∀ j ∈ dpreds o, S j = true) (hcl0 : ∀ (j : Nat) (o' : Oper), os[j]? = some o' → S j = true → ∀ k ∈ dpreds o', S k = true) (hfact : SFactB P st W ops os vs i o v) (hI : Inv ⟨st.n, st.t, hW W S st.h⟩ os (vW W S os vs) S ρ F a w)
    {N : Act → World → Prop} {Q : Exit → Act → World → Prop} (hN : ∀ ρ' F' a' w', Inv ⟨st.n, st.t, hW W (upd S i) st.h⟩ os (vW W (upd S i) os vs) (upd S i) ρ' F' a' w' → Fr ρ F w ρ' F' w' → N a' w') : wpOp P ops Q i N a w := by
  obtain ⟨hdst, rfl, L, hL, hg, t, x, y, l, off, u, B, z, hop, hx, hy, hB, hz, hc, hm⟩ := hfact
  have hvw : Rel ρ F (dViewL ⟨st.n, st.t, hV W st.h⟩ os vs L o) a w := hI.rel.subset rfl (by
    intro p hp'
    simp only [dViewL, dSt, List.mem_append] at hp' ⊢
    rw [partT_vW]
    rcases hp' with h | h | h
    · obtain ⟨j, o', v', h1, h2, h3, h4, h5⟩ := mem_partT.1 h
      refine .inl (mem_partT.2 ⟨j, o', v', h1, h2, ?_, h4, h5⟩)
      rw [Nat.zero_add] at h3 ⊢
      exact hp j (by simpa using h3)
    · refine .inr (mem_dropTs' (hL p h).1 fun hm => ?_)
      obtain ⟨j, o', h1, h2, h3⟩ := mem_dstsS.1 hm
      rw [Nat.zero_add] at h2
      have := hcl0 j o' h1 h2 i ((hL p h).2 j o' h1 h3)
      rw [hS] at this; cases this
    · have h' := mem_dropTs h
      refine .inr (mem_dropTs' h'.1 fun hm => h'.2 ?_)
      obtain ⟨j, o', h1, h2, h3⟩ := mem_dstsS.1 hm
      exact dsts_mem h1 h3) (by intro p hp'; simp only [dViewL, dSt, List.mem_append] at hp' ⊢; exact .inr (hV_sub p hp'))
  have hw := gOk_rel hvw hg
  simp only [wpOp, ho', hw, if_true]
  refine .inl ?_
  have hgl : get? l (dSt ⟨st.n, st.t, hW W S st.h⟩ os (vW W S os vs) S).h = some B := by
    show get? l (partH S 0 os (vW W S os vs) ++ hW W S st.h) = some B
    rcases hB with hB | ⟨j0, o0, v0, d0, b1, b2, b3, b4, b5, b6⟩
    · rw [get?_append_none, get?_hW, hB, Option.map_some, (newB_at ok hm B).1 hS]
      intro C hC
      obtain ⟨j, o', v', d, h1, h2, h3, h4, h5, h6⟩ := mem_partH.1 hC
      obtain ⟨v2, h7, rfl⟩ := vW_of h1 h2
      subst h5
      exact hno j o' v2 d h1 h7 h4 (by rw [← vW1_some (W := W) (S := S) (d := o'.dst), h6]; rfl) _ (get?_mem hB)
    · subst b4
      have hk : ∀ C, (lab d0, C) ∉ hW W S st.h := hW_key (hno j0 o0 v0 d0 b1 b2 b3 (by rw [b5]; rfl))
      refine get?_only ?_ ?_
      · refine List.mem_append.2 (.inl (mem_partH.2 ⟨j0, o0, _, d0, b1, vW_at b1 b2, by rw [Nat.zero_add]; exact hp j0 b6, b3, rfl, ?_⟩))
        simp only [vW1, b3, b5, Option.map_some]
        rw [(newB_at ok hm B).1 hS]
      · intro C hC
        rcases List.mem_append.1 hC with hC | hC
        · obtain ⟨j, o', v', d, h1, h2, h3, h4, h5, h6⟩ := mem_partH.1 hC
          obtain ⟨v2, h7, rfl⟩ := vW_of h1 h2
          have := lab_inj h5
          subst this
          have := dsts_inj hnd h1 b1 h4 b3
          subst this
          rw [h1] at b1; cases b1
          rw [h7] at b2; cases b2
          simp only [vW1, h4, b5, Option.map_some] at h6
          rw [(newB_at ok hm B).1 hS] at h6
          exact (Option.some.inj h6).symm
        · exact absurd hC (hk C)
  have hst : aStore P (dSt ⟨st.n, st.t, hW W S st.h⟩ os (vW W S os vs) S) t (.ptr l off) u = some { (dSt ⟨st.n, st.t, hW W S st.h⟩ os (vW W S os vs) S) with h := ins l { B with cs := splice off u.cells B.cs } (dSt ⟨st.n, st.t, hW W S st.h⟩ os (vW W S os vs) S).h } := by
    simp only [aStore, hz, hgl, Option.bind_some]
    rw [if_pos hc]
  obtain ⟨w', hr, hR', hF⟩ := aStore_run hI.rel (hvw.get hx) (hvw.get hy) hst
  have hfin := Inv.finish (st := ⟨st.n, st.t, hW W (upd S i) st.h⟩) (vs := vW W (upd S i) os vs) (S := S) (u := undef) hnd ho (vW_at ho hv) (by rw [hdst]; rfl) (hR'.subset rfl (fun p h => by
    have h : p ∈ partT S 0 os (vW W (upd S i) os vs) ++ dropTs (dstsS S 0 os) st.t := h
    rw [partT_vW] at h
    show p ∈ partT S 0 os (vW W S os vs) ++ dropTs (dstsS S 0 os) st.t
    rw [partT_vW]
    exact h) (by
    intro p hp'
    simp only [hdst, bentry?, List.nil_append] at hp'
    have hp' : p ∈ partH S 0 os (vW W (upd S i) os vs) ++ hW W (upd S i) st.h := hp'
    rcases List.mem_append.1 hp' with h | h
    · obtain ⟨j, o', v', d, h1, h2, h3, h4, h5, h6⟩ := mem_partH.1 h
      obtain ⟨v2, h7, rfl⟩ := vW_of h1 h2
      cases hb2 : v2.2 with
      | none => simp [vW1, h4, hb2] at h6
      | some C =>
        simp only [vW1, h4, hb2, Option.map_some] at h6
        by_cases e : lab d = l
        · have h8 := Option.some.inj h6
          rw [e, (newB_at (S := upd S i) ok hm C).2 (by simp [upd])] at h8
          have : p = (l, { B with cs := splice off u.cells B.cs }) := by rw [h8, ← e, h5]
          rw [this]
          exact mem_ins_self _ _ _
        · rw [newB_else ok hm e] at h6
          refine mem_ins_other (by rw [← h5]; exact e) (List.mem_append.2 (.inl (mem_partH.2 ⟨j, o', _, d, h1, vW_at h1 h7, h3, h4, h5, ?_⟩)))
          simp only [vW1, h4, hb2, Option.map_some]
          exact h6
    · rcases hW_ins ok hm p h with rfl | ⟨hne, h⟩
      · exact mem_ins_self _ _ _
      · exact mem_ins_other hne (List.mem_append.2 (.inr h)))) (by show VR _ _ _ AV.dead _; simp only [VR]) (by
    intro j o' v' d h1 h2 h3 h4 h5
    simp only [upd, Bool.or_eq_false_iff] at h3
    obtain ⟨v2, h7, rfl⟩ := vW_of h1 h2
    exact hI.new j o' _ d h1 (vW_at h1 h7) h3.1 h4 (by rw [vW1_some] at h5 ⊢; exact h5))
  have := hN _ _ _ _ hfin hF
  rw [hdst] at this
  simpa [execOp, hop, hr, Oper.wp, Oper.upon, hdst] using this

theorem draw_anyB {P : Program} {ops : Array Oper} {st : St} {os : List Oper} {vs : List (AV × Option Blk)} {m : Nat} {K : St → Prop} {Q : Exit → Act → World → Prop} {ρ0 : Rho} {F0 : Nat → Prop} {w0 : World}
    {W : Wr} (ok : okW W = true) (hWm : ∀ e ∈ W, e.1 < m) (hos : os = ops.toList.take m) (hm : m ≤ ops.size) (hvl : vs.length = m) (ht : tailOk ops m = true) (hnd : (dsts os).Nodup)
    (hno : ∀ (j : Nat) (o' : Oper) (v' : AV × Option Blk) (d : Tmp), os[j]? = some o' → vs[j]? = some v' → o'.dst = some d → v'.2.isSome = true → ∀ C, (lab d, C) ∉ st.h)
    (hfact : ∀ (i : Nat) (o : Oper) (v : AV × Option Blk), os[i]? = some o → vs[i]? = some v → DFactB P st W ops os vs i o v)
    (hT : AOps P ops (List.range' m (ops.size - m)) K (dSt ⟨st.n, st.t, hW W (fun _ => true) st.h⟩ os (vW W (fun _ => true) os vs) fun _ => true))
    (hQ : ∀ st' ρ' F' a' w', K st' → Rel ρ' F' st' a' w' → Fr ρ0 F0 w0 ρ' F' w' → Q .normal a' w') :
    ∀ (fuel : Nat) {listed : Array Bool} {a : Act} {w : World} {ρ : Rho} {F : Nat → Prop}, listed.size = ops.size → unl listed.toList = fuel → Closed ops (ls listed) → (∀ i, ls listed i = true → i < m) →
      Inv ⟨st.n, st.t, hW W (ls listed) st.h⟩ os (vW W (ls listed) os vs) (ls listed) ρ F a w → Fr ρ0 F0 w0 ρ F w → wpAny P .any ops Q fuel listed a w := by
  have hedge : ∀ (i : Nat) (o : Oper), ops[i]? = some o → ∀ j ∈ dpreds o, j < i := by
    intro i o ho j hj
    simp only [tailOk, Bool.and_eq_true] at ht
    have := edgesOk_lt ht.1 i o (by rw [Array.getElem?_toList]; exact ho) j hj
    omega
  have hosget : ∀ i, i < m → os[i]? = ops[i]? := by
    intro i hi; rw [hos, List.getElem?_take, if_pos hi, Array.getElem?_toList]
  -- all ahead of the tail is done
  have full : ∀ (fuel : Nat) {listed : Array Bool} {a : Act} {w : World} {ρ : Rho} {F : Nat → Prop}, listed.size = ops.size → unl listed.toList = fuel → (∀ i, ls listed i = decide (i < m)) →
      Inv ⟨st.n, st.t, hW W (ls listed) st.h⟩ os (vW W (ls listed) os vs) (ls listed) ρ F a w → Fr ρ0 F0 w0 ρ F w → wpAny P .any ops Q fuel listed a w := by
    intro fuel listed a w ρ F hs hu hl hI hFr
    have hfuel : fuel = ops.size - m := by
      have key : ∀ (l : List Bool) (s : Nat), (∀ (i : Nat) b, l[i]? = some b → b = decide (s + i < m)) → unl l = (s + l.length - m) - (s - m) := by
        intro l
        induction l with
        | nil => intro s _; simp [unl]
        | cons b l ih =>
          intro s h
          have h0 := h 0 b (by simp)
          have h1 := ih (s + 1) (fun i b hb => by have := h (i + 1) b (by simpa using hb); rw [this]; congr 1; apply propext; constructor <;> intro <;> omega)
          simp only [unl, h1, List.length_cons]
          rw [h0]
          by_cases hsm : s + 0 < m
          · rw [if_pos (by simpa using hsm)]; omega
          · rw [if_neg (by simpa using hsm)]; omega
      have := key listed.toList 0 (by
        intro i b hb
        have h1 := hl i
        have hlt : i < listed.size := by have := (List.getElem?_eq_some_iff.1 hb).1; simpa using this
        rw [Nat.zero_add, ← h1]
        simp only [ls, Array.getD_eq_getD_getElem?, ← Array.getElem?_toList, hb]; rfl)
      rw [hu] at this
      simp at this; omega
    subst hfuel
    refine tail_any ht _ (k := m) hs (Nat.le_refl _) (by omega) hl ?_
    refine hT ρ F a w Q (hI.rel.subset rfl ?_ ?_) (fun st' ρ' F' a' w' h1 h2 h3 => hQ st' ρ' F' a' w' h1 h2 (hFr.trans h3))
    · intro p hp
      simp only [dSt, List.mem_append] at hp ⊢
      rw [partT_vW] at hp ⊢
      rcases hp with hp | hp
      · obtain ⟨i, o, v, h1, h2, _, h4, h5⟩ := mem_partT.1 hp
        refine .inl (mem_partT.2 ⟨i, o, v, h1, h2, ?_, h4, h5⟩)
        have := (List.getElem?_eq_some_iff.1 h2).1
        rw [hl]; simp; omega
      · have hp' := mem_dropTs hp
        refine .inr (mem_dropTs' hp'.1 fun hm => hp'.2 ?_)
        obtain ⟨j, o', h1, h2, h3⟩ := mem_dstsS.1 hm
        exact mem_dstsS.2 ⟨j, o', h1, rfl, h3⟩
    · intro p hp
      simp only [dSt, List.mem_append] at hp ⊢
      rcases hp with hp | hp
      · rw [vW_congr (T := ls listed) fun _ _ _ d B _ _ _ _ => newB_all fun e he => by rw [hl]; simp [hWm e he]] at hp
        obtain ⟨i, o, v, d, h1, h2, _, h4, h5⟩ := mem_partH.1 hp
        refine .inl (mem_partH.2 ⟨i, o, v, d, h1, h2, ?_, h4, h5⟩)
        have := (List.getElem?_eq_some_iff.1 h2).1
        rw [vW_len] at this
        rw [hl]; simp; omega
      · refine .inr ?_
        rw [hW_all (T := fun _ => true)]
        · exact hp
        · intro e he; rw [hl]; simp [hWm e he]
  intro fuel
  induction fuel with
  | zero =>
    intro listed a w ρ F hs hu hc hlm hI hFr
    refine full 0 hs hu ?_ hI hFr
    intro i
    cases hli : ls listed i with
    | true => have := hlm i hli; simp [this]
    | false =>
      by_cases him : i < m
      · exfalso
        have hlt : i < listed.size := by omega
        have hb : listed.toList[i]? = some listed[i] := by simp [hlt]
        have := unl_zero hu i _ hb
        simp only [ls, Array.getD_eq_getD_getElem?, Array.getElem?_eq_getElem hlt] at hli
        rw [this] at hli
        simp at hli
      · simp [him]
  | succ fuel ih =>
    intro listed a w ρ F hs hu hc hlm hI hFr
    by_cases hfull : ∀ i, ls listed i = decide (i < m)
    · exact full _ hs hu hfull hI hFr
    · obtain ⟨i0, h1, h2⟩ := unl_pos (l := listed.toList) (by omega)
      have hi0 : i0 < listed.size := by have := (List.getElem?_eq_some_iff.1 h1).1; simpa using this
      have hls : ∀ (i : Nat) b, listed.toList[i]? = some b → ls listed i = b := by
        intro i b hb; simp only [ls, Array.getD_eq_getD_getElem?, ← Array.getElem?_toList, hb]; rfl
      obtain ⟨o0, ho0⟩ : ∃ o, ops[i0]? = some o := ⟨_, Array.getElem?_eq_getElem (by omega)⟩
      have hr0 : i0 ∈ Region.ready .any ops listed := (ready_iff hs).2 ⟨o0, ho0, hls _ _ h1, fun j hj => hls _ _ (h2 j (hedge i0 o0 ho0 j hj))⟩
      refine ⟨fun h0 => (by rw [h0] at hr0; cases hr0), ?_⟩
      intro i hi
      obtain ⟨o, ho, hli, hp⟩ := (ready_iff hs).1 hi
      have him : i < m := by
        rcases Nat.lt_or_ge i m with h | h
        · exact h
        · exfalso
          apply hfull
          have h3 := tail_all ht hc ho h hp
          intro j
          cases hlj : ls listed j with
          | true => have := hlm j hlj; simp [this]
          | false =>
            by_cases hjm : j < m
            · have := h3 j (by omega); rw [hlj] at this; cases this
            · simp [hjm]
      have hoi : os[i]? = some o := by rw [hosget i him]; exact ho
      obtain ⟨v, hv⟩ : ∃ v, vs[i]? = some v := ⟨_, List.getElem?_eq_getElem (by omega)⟩
      have hcl1 : ∀ (j : Nat) (o' : Oper), os[j]? = some o' → ls listed j = true → ∀ k ∈ dpreds o', ls listed k = true := fun j o' h1 h2 => hc j o' (by
        have hjm : j < m := by
          rw [hos, List.getElem?_take] at h1
          split at h1
          · assumption
          · cases h1
        rw [← hosget j hjm]; exact h1) h2
      have next : ∀ ρ' F' a' w', Inv ⟨st.n, st.t, hW W (upd (ls listed) i) st.h⟩ os (vW W (upd (ls listed) i) os vs) (upd (ls listed) i) ρ' F' a' w' → Fr ρ F w ρ' F' w' → wpAny P .any ops Q fuel (listed.setIfInBounds i true) a' w' := by
        intro ρ' F' a' w' hI' hFr'
        have hlt : i < listed.size := by have := (Array.getElem?_eq_some_iff.1 ho).1; omega
        have hset := ls_set hlt
        refine ih (by simpa using hs) ?_ ?_ ?_ (by rw [hset]; exact hI') (hFr.trans hFr')
        · have hb : listed.toList[i]? = some false := by
            have h9 : listed.toList[i]? = some listed[i] := by simp [hlt]
            rw [h9]; congr 1
            have := hls i _ h9
            rw [← this]; exact hli
          have := unl_set hb
          simp only [Array.toList_setIfInBounds]
          omega
        · rw [hset]
          intro j o' ho' hj k hk
          simp only [upd, Bool.or_eq_true, beq_iff_eq] at hj ⊢
          rcases hj with hj | rfl
          · exact .inl (hc j o' ho' hj k hk)
          · rw [ho] at ho'; cases ho'; exact .inl (hp k hk)
        · rw [hset]
          intro j hj
          simp only [upd, Bool.or_eq_true, beq_iff_eq] at hj
          rcases hj with hj | rfl
          · exact hlm j hj
          · exact him
      rcases hfact i o v hoi hv with ⟨hni, hf⟩ | hf
      · -- what is born here is not yet written
        have hv1 : vW1 W (ls listed) o.dst v = v := by
          obtain ⟨x, B⟩ := v
          unfold vW1
          cases hd : o.dst with
          | none => rfl
          | some d =>
            cases B with
            | none => rfl
            | some B =>
              simp only [Option.map_some]
              rw [newB_no]
              intro e he hel
              cases hle : ls listed e.1 with
              | false => rfl
              | true =>
                exfalso
                have hem := hWm e he
                have heo : os[e.1]? = some ops[e.1] := by rw [hosget e.1 hem]; exact Array.getElem?_eq_getElem (by omega)
                obtain ⟨ve, hve⟩ : ∃ v, vs[e.1]? = some v := ⟨_, List.getElem?_eq_getElem (by omega)⟩
                rcases hfact e.1 _ ve heo hve with ⟨h1, _⟩ | ⟨_, _, L, _, _, t, x', y', l, off, u, B0, z, _, _, _, hB, _, _, hmm⟩
                · exact h1 e he rfl
                · have := okW_one ok he hmm rfl
                  have hl' : e.2.1 = l := by rw [this]
                  rw [hel] at hl'
                  rcases hB with hB | ⟨j0, o0, v0, d0, b1, b2, b3, b4, b5, b6⟩
                  · exact hno i o _ d hoi hv hd rfl B0 (by rw [hl']; exact get?_mem hB)
                  · have h3 := lab_inj (hl'.trans b4.symm)
                    subst h3
                    have := dsts_inj hnd hoi b1 hd b3
                    subst this
                    have := hcl1 e.1 _ heo hle i b6
                    rw [hli] at this; cases this
        have hf' : DFact P ⟨st.n, st.t, hV W st.h⟩ ops os (vW W (ls listed) os vs) i o v := by
          unfold DFact at hf ⊢
          have hq : ∀ L, dViewL ⟨st.n, st.t, hV W st.h⟩ os (vW W (ls listed) os vs) L o = dViewL ⟨st.n, st.t, hV W st.h⟩ os vs L o := by
            intro L; simp only [dViewL, partT_vW]
          simp only [hq]
          exact hf
        refine draw_step2 (st := ⟨st.n, st.t, hW W (ls listed) st.h⟩) (h2 := hV W st.h) hnd (fun j o' v' d h1 h2 h3 h4 => ?_) ho hoi (by have := vW_at (W := W) (S := ls listed) hoi hv; rw [hv1] at this; exact this) hli hp hcl1 hV_sub hf' hI ?_
        · obtain ⟨v2, h7, rfl⟩ := vW_of h1 h2
          rw [vW1_some] at h4
          exact hW_key (hno j o' v2 d h1 h7 h3 h4)
        intro ρ' F' a' w' hI' hFr'
        refine next ρ' F' a' w' ?_ hFr'
        rw [hW_off hni, vW_congr (T := ls listed) fun _ _ _ d B _ _ _ _ => newB_off hni]
        exact hI'
      · exact store_stepB ok hnd hno ho hoi hv hli hp hcl1 hf hI next


theorem AW.drawB {P : Program} {id : Nat} {ops : Array Oper} {K : Exit → St → Prop} {st : St} (hmix : P.follows .mixedOrders = true) {W : Wr} (ok : okW W = true) (m : Nat) (hWm : ∀ e ∈ W, e.1 < m) (Ls : List Nat) (vs : List (AV × Option Blk)) (hm : m ≤ ops.size) (hvl : vs.length = m) (ht : tailOk ops m = true)
    (hnd : (dsts (ops.toList.take m)).Nodup) (hLs : ∀ l ∈ newLs (ops.toList.take m) vs, l ∈ Ls)
    (hfact : ∀ (i : Nat) (o : Oper) (v : AV × Option Blk), (ops.toList.take m)[i]? = some o → vs[i]? = some v → DFactB P (st.drops Ls) W ops (ops.toList.take m) vs i o v)
    (hT : AOps P ops (List.range' m (ops.size - m)) (K .normal) (dSt ⟨(st.drops Ls).n, (st.drops Ls).t, hW W (fun _ => true) (st.drops Ls).h⟩ (ops.toList.take m) (vW W (fun _ => true) (ops.toList.take m) vs) fun _ => true)) : AW P (.region id ops true) K st := by
  intro ρ F a w Q hR hQ
  have hR1 := Rel.drops Ls hR
  have hF1 := Fr.drops (F := F) (w := w) Ls ρ
  refine wp_region_any hmix ?_
  -- one answer drawn
  have hw1 : Rel (rdels ρ Ls) F (st.drops Ls) a { w with drawn := w.drawn + 1 } :=
    ⟨⟨fun l B hB => by
        rcases hR1.heap.blk l B hB with h | ⟨r, m, c, h1, h2, h3, us, h4, h5⟩
        · exact .inl h
        · exact .inr ⟨r, m, c, h1, h2, h3, us, VRs.keep (w := w) (w' := { w with drawn := w.drawn + 1 }) (fun _ h => h) (fun _ _ _ _ h => h) (fun _ _ h => h) _ _ h4, h5⟩, hR1.heap.inj, hR1.heap.apart, hR1.heap.lt, hR1.heap.flt⟩, hR1.size, hR1.defers,
      fun t v hv => ⟨(hR1.tmps t v hv).1, VR.keep (w := w) (w' := { w with drawn := w.drawn + 1 }) (fun _ h => h) (fun _ _ _ _ h => h) (fun _ _ h => h) _ _ (hR1.tmps t v hv).2⟩⟩
  have hFd : Fr ρ F w (rdels ρ Ls) F { w with drawn := w.drawn + 1 } :=
    ⟨rfl, rfl, rfl, Nat.le_refl _, fun _ _ _ => rfl, hF1.froz, hF1.froz', hF1.own, hF1.same, hF1.gone⟩
  refine draw_anyB (st := st.drops Ls) (K := K .normal) (ρ0 := ρ) (F0 := F) (w0 := w) ok hWm rfl hm hvl ht hnd ?_ hfact hT (fun st' ρ' F' a' w' h1 h2 h3 => hQ _ st' ρ' F' a' w' h1 h2 h3) ops.size (ρ := rdels ρ Ls) (F := F) (by simp) ?_ ?_ ?_ ?_ hFd
  · intro j o' v' d h1 h2 h3 h4
    exact drops_h (.inl (hLs _ (newLs_mem h1 h2 h3 h4)))
  · have : ∀ n, unl (List.replicate n false) = n := by
      intro n; induction n with
      | zero => rfl
      | succ n ih => simp [List.replicate_succ, unl, ih, Nat.add_comm]
    simp [this]
  · intro i o ho hi
    simp [ls, Array.getD_eq_getD_getElem?, Array.getElem?_replicate] at hi
    split at hi <;> simp at hi
  · intro i hi
    simp [ls, Array.getD_eq_getD_getElem?, Array.getElem?_replicate] at hi
    split at hi <;> simp at hi
  · have hf : ls (Array.replicate ops.size false) = fun _ => false := by
      funext i
      simp only [ls, Array.getD_eq_getD_getElem?, Array.getElem?_replicate]
      split <;> rfl
    rw [hf]
    rw [hW_none]
    refine ⟨hw1.subset rfl ?_ ?_, ?_⟩
    · intro p hp
      simp only [dSt, List.mem_append] at hp
      rcases hp with hp | hp
      · obtain ⟨i, o, v, _, _, h3, _⟩ := mem_partT.1 hp; cases h3
      · exact (mem_dropTs hp).1
    · intro p hp
      simp only [dSt, List.mem_append] at hp
      rcases hp with hp | hp
      · obtain ⟨i, o, v, d, _, _, h3, _⟩ := mem_partH.1 hp; cases h3
      · exact hp
    · intro i o v d h1 h2 _ h4 h5
      obtain ⟨v2, h7, rfl⟩ := vW_of h1 h2
      rw [vW1_some] at h5
      exact rdels_none (.inl (hLs _ (newLs_mem h1 h7 h4 h5)))

/-- «as» far «as» the values say, the region may be walked -/
def ADB (P : Program) (id : Nat) (ops : Array Oper) (W : Wr) (m : Nat) (Ls : List Nat) (K : Exit → St → Prop) (st : St) (vs : List (AV × Option Blk)) : Prop :=
  (∀ l ∈ newLs (ops.toList.take m) vs, l ∈ Ls) → (∀ (i : Nat) (o : Oper) (v : AV × Option Blk), (ops.toList.take m)[i]? = some o → vs[i]? = some v → DFactB P (st.drops Ls) W ops (ops.toList.take m) vs i o v) → AW P (.region id ops true) K st

theorem ADB.snoc {P id ops W m Ls K st vs} {o : Oper} {v : AV × Option Blk} (he : edgesOk 0 ops.toList = true) (ho : (ops.toList.take m)[vs.length]? = some o) (hl : lOk Ls o.dst v.2 = true)
    (hf : DFactB P (st.drops Ls) W ops (ops.toList.take m) vs vs.length o v) (h : ADB P id ops W m Ls K st (vs ++ [v])) : ADB P id ops W m Ls K st vs := by
  intro hls hfs
  have hview : ∀ (i : Nat) (o' : Oper), (ops.toList.take m)[i]? = some o' → i ≤ vs.length → ∀ L, dViewL ⟨(st.drops Ls).n, (st.drops Ls).t, hV W (st.drops Ls).h⟩ (ops.toList.take m) (vs ++ [v]) L o' = dViewL ⟨(st.drops Ls).n, (st.drops Ls).t, hV W (st.drops Ls).h⟩ (ops.toList.take m) vs L o' := by
    intro i o' ho' hi L
    simp only [dViewL]
    rw [partT_snoc]
    simp only [Nat.zero_add, List.contains_eq_mem, decide_eq_false_iff_not]
    intro hmem
    have h1 : ops.toList[i]? = some o' := by
      rw [List.getElem?_take] at ho'
      split at ho'
      · exact ho'
      · cases ho'
    have := edgesOk_lt he i o' h1 _ hmem
    omega
  refine h ?_ ?_
  · intro l hmem
    rw [newLs_snoc ho] at hmem
    rcases List.mem_append.1 hmem with hmem | hmem
    · exact hls l hmem
    · cases hd : o.dst <;> cases hB : v.2 <;> simp only [hd, hB, mkL, lOk] at hmem hl <;> try (cases hmem; done)
      simp only [List.mem_singleton] at hmem
      subst hmem
      simpa using hl
  · intro i o' v' ho' hv'
    have hi : i ≤ vs.length := by
      have := (List.getElem?_eq_some_iff.1 hv').1
      simp at this; omega
    have key : ∀ v'', DFactB P (st.drops Ls) W ops (ops.toList.take m) vs i o' v'' → DFactB P (st.drops Ls) W ops (ops.toList.take m) (vs ++ [v]) i o' v'' := by
      intro v'' hd
      unfold DFactB DFact SFactB at hd ⊢
      simp only [hview i o' ho' hi]
      rcases hd with hd | ⟨a1, a2, L, a3, a4, t, x, y, l, off, u, B, z, a5, a6, a7, hB, a8⟩
      · exact .inl hd
      · refine .inr ⟨a1, a2, L, a3, a4, t, x, y, l, off, u, B, z, a5, a6, a7, ?_, a8⟩
        rcases hB with hB | ⟨j0, o0, v0, d0, b1, b2, b3⟩
        · exact .inl hB
        · exact .inr ⟨j0, o0, v0, d0, b1, by rw [List.getElem?_append_left (List.getElem?_eq_some_iff.1 b2).1]; exact b2, b3⟩
    by_cases hlt : i < vs.length
    · rw [List.getElem?_append_left hlt] at hv'
      exact key v' (hfs i o' v' ho' hv')
    · have hie : i = vs.length := by omega
      subst hie
      rw [List.getElem?_append_right (Nat.le_refl _)] at hv'
      simp at hv'
      subst hv'
      rw [ho] at ho'
      cases ho'
      exact key _ hf



/-- the rest of what may stand in any order, with writes -/
def ADLB (P : Program) (id : Nat) (ops : Array Oper) (W : Wr) (m : Nat) (Ls : List Nat) (K : Exit → St → Prop) (st : St) (pre : List Oper) (st1 : St) (base : List (Nat × AV)) (os : List Oper) (vs : List (AV × Option Blk)) : Prop :=
  drawOk ops m = true → pre = ops.toList.take m → st1 = ⟨(st.drops Ls).n, (st.drops Ls).t, hV W (st.drops Ls).h⟩ → base = dropTs (dsts pre) st1.t → pre.drop vs.length = os → ADB P id ops W m Ls K st vs
theorem ADLB.pure {P : Program} {id : Nat} {ops : Array Oper} {W : Wr} {m : Nat} {Ls : List Nat} {K : Exit → St → Prop} {st : St} {pre : List Oper} {st1 : St} {base : List (Nat × AV)} {o : Oper} {os : List Oper} {vs : List (AV × Option Blk)} {v : AV × Option Blk}
    (hoff : offW W vs.length = true) (hr : dStepL P st.n ops.toList Ls (dVw st1 pre base vs o) o = some v) (h : ADLB P id ops W m Ls K st pre st1 base os (vs ++ [v])) : ADLB P id ops W m Ls K st pre st1 base (o :: os) vs := by
  intro hok hpre hst hbase hos
  have h' := h hok hpre hst hbase (by rw [List.length_append, List.length_singleton, ← List.drop_drop, hos]; rfl)
  simp only [drawOk, Bool.and_eq_true, decide_eq_true_eq] at hok
  obtain ⟨he, _⟩ := hok
  have ho : pre[vs.length]? = some o := by
    have := congrArg (·[0]?) hos
    simpa using this
  subst hpre
  have hvw : dVw st1 (ops.toList.take m) base vs o = dViewL ⟨(st.drops Ls).n, (st.drops Ls).t, hV W (st.drops Ls).h⟩ (ops.toList.take m) vs [] o := by
    subst hst hbase
    rw [dVw_eq]
    simp only [dView, dViewL, List.nil_append]
  rw [hvw] at hr
  have hn : (⟨(st.drops Ls).n, (st.drops Ls).t, hV W (st.drops Ls).h⟩ : St).n = st.n := drops_n _ _
  unfold dStepL at hr
  rw [gOkL_eq] at hr
  split at hr
  · rename_i hd hg
    cases hr
    exact ADB.snoc he ho (by cases o.dst <;> simp [lOk]) (.inl ⟨offW_iff hoff, by rw [hn]; exact hd, [], LateOk.nil _ _ _, .inl ⟨hg, rfl⟩⟩) h'
  · rename_i hd hg
    simp only [Option.bind_eq_some_iff] at hr
    obtain ⟨v', hv, hr⟩ := hr
    split at hr
    · rename_i hl
      cases hr
      exact ADB.snoc he ho hl (.inl ⟨offW_iff hoff, by rw [hn]; exact hd, [], LateOk.nil _ _ _, .inr ⟨hg, .inl hv⟩⟩) h'
    · cases hr
  · cases hr
theorem ADLB.call {P : Program} {id : Nat} {ops : Array Oper} {W : Wr} {m : Nat} {Ls : List Nat} {K : Exit → St → Prop} {st : St} {pre : List Oper} {st1 : St} {base : List (Nat × AV)} {o : Oper} {os : List Oper} {vs vs' : List (AV × Option Blk)} {g : FuncId} {«as» : List AV} {v : AV}
    (hoff : offW W vs.length = true) (hc : dCallL st.n ops.toList (dVw st1 pre base vs o) o = some (g, «as»)) (hF : Fn P g «as» [] (fun r _ => r = v)) (hcl : callable P g = true) (hfr : frees «as» = true) (hv : v.free = true)
    (hvs : vs ++ [(v, none)] = vs') (h : ADLB P id ops W m Ls K st pre st1 base os vs') : ADLB P id ops W m Ls K st pre st1 base (o :: os) vs := by
  subst hvs
  intro hok hpre hst hbase hos
  have h' := h hok hpre hst hbase (by rw [List.length_append, List.length_singleton, ← List.drop_drop, hos]; rfl)
  simp only [drawOk, Bool.and_eq_true, decide_eq_true_eq] at hok
  obtain ⟨he, _⟩ := hok
  have ho : pre[vs.length]? = some o := by
    have := congrArg (·[0]?) hos
    simpa using this
  subst hpre
  have hvw : dVw st1 (ops.toList.take m) base vs o = dViewL ⟨(st.drops Ls).n, (st.drops Ls).t, hV W (st.drops Ls).h⟩ (ops.toList.take m) vs [] o := by
    subst hst hbase
    rw [dVw_eq]
    simp only [dView, dViewL, List.nil_append]
  rw [hvw] at hc
  unfold dCallL at hc
  rw [gOkL_eq] at hc
  split at hc
  · rename_i hd hg
    exact ADB.snoc he ho (by cases o.dst <;> simp [lOk]) (.inl ⟨offW_iff hoff, by show dOk (st.drops Ls).n o.dst = true; rw [drops_n]; exact hd, [], LateOk.nil _ _ _, .inr ⟨hg, .inr ⟨g, «as», hc, hcl, hfr, rfl, hv, hF⟩⟩⟩) h'
  · cases hc
/-- a write -/
theorem ADLB.write {P : Program} {id : Nat} {ops : Array Oper} {W : Wr} {m : Nat} {Ls : List Nat} {K : Exit → St → Prop} {st : St} {pre : List Oper} {st1 : St} {base : List (Nat × AV)} {o : Oper} {os : List Oper} {vs vs' : List (AV × Option Blk)} {t l off z : Nat} {x y : Operand} {u : AV} {B B' : Blk}
    (hd : o.dst = none) (hop : o.op = .store t x y) (hg : gOkL ops.toList (dVw st1 pre base vs o) o.guard = some true) (hx : (dVw st1 pre base vs o).eval x = some (.ptr l off)) (hy : (dVw st1 pre base vs o).eval y = some u) (hB : Here (st.drops Ls) (ops.toList.take m) vs o l B) (hz : tSz P t = some z)
    (hc : u.fits = true ∧ u.cells.length = z ∧ 0 < z ∧ off + z ≤ B.cs.length ∧ (B.boxy = false → frees u.cells = true)) (hB' : ({ B with cs := splice off u.cells B.cs } : Blk) = B') (hm : (vs.length, l, B') ∈ W)
    (hvs : vs ++ [(.dead, none)] = vs') (h : ADLB P id ops W m Ls K st pre st1 base os vs') : ADLB P id ops W m Ls K st pre st1 base (o :: os) vs := by
  subst hvs hB'
  intro hok hpre hst hbase hos
  have h' := h hok hpre hst hbase (by rw [List.length_append, List.length_singleton, ← List.drop_drop, hos]; rfl)
  simp only [drawOk, Bool.and_eq_true, decide_eq_true_eq] at hok
  obtain ⟨he, _⟩ := hok
  have ho : pre[vs.length]? = some o := by
    have := congrArg (·[0]?) hos
    simpa using this
  subst hpre
  have hvw : dVw st1 (ops.toList.take m) base vs o = dViewL ⟨(st.drops Ls).n, (st.drops Ls).t, hV W (st.drops Ls).h⟩ (ops.toList.take m) vs [] o := by
    subst hst hbase
    rw [dVw_eq]
    simp only [dView, dViewL, List.nil_append]
  rw [hvw] at hx hy hg
  rw [gOkL_eq] at hg
  exact ADB.snoc he ho (by rw [hd]; rfl) (.inr ⟨hd, rfl, [], LateOk.nil _ _ _, hg, t, x, y, l, off, u, B, z, hop, hx, hy, hB, hz, hc, hm⟩) h'
theorem AW.drwB {P : Program} {id : Nat} {ops : Array Oper} {K : Exit → St → Prop} {st st1 : St} {base : List (Nat × AV)} {pre : List Oper} (W : Wr) (m : Nat) (Ls : List Nat) (hok : drawOk ops m = true)
    (hst : (⟨(st.drops Ls).n, (st.drops Ls).t, hV W (st.drops Ls).h⟩ : St) = st1)
    (hp : takeL m ops.toList = pre)
    (hb : dropTL (dsts pre) st1.t = base)
    (h : ADLB P id ops W m Ls K st pre st1 base pre []) : AW P (.region id ops true) K st := by
  rw [takeL_eq] at hp
  rw [dropTL_eq] at hb
  subst hp
  refine h hok rfl hst.symm hb.symm rfl ?_ (by intro i o v _ hv; simp at hv)
  intro l hl
  cases hq : ops.toList.take m <;> rw [hq] at hl <;> simp [newLs] at hl
theorem ADLB.done {P : Program} {id : Nat} {ops : Array Oper} {W : Wr} {m : Nat} {Ls : List Nat} {K : Exit → St → Prop} {st : St} {pre : List Oper} {st1 : St} {base t : List (Nat × AV)} {hh : List (Nat × Blk)} {vs : List (AV × Option Blk)} {n : Nat} (hmix : P.follows .mixedOrders = true) (ok : okW W = true) (hWm : (W.all fun e => decide (e.1 < m)) = true) (hlen : vs.length = m)
    (hn : st1.n = n) (ht : insAll base pre vs = t) (hhh : insAllH (hW W (fun _ => true) (st.drops Ls).h) pre (vW W (fun _ => true) pre vs) = hh)
    {os' : List Oper} (hos' : dropL m ops.toList = os') (hT : AOL P ops os' (K .normal) ⟨n, t, hh⟩) : ADLB P id ops W m Ls K st pre st1 base [] vs := by
  intro hok hpre hst hbase hos
  simp only [drawOk, Bool.and_eq_true, decide_eq_true_eq] at hok
  obtain ⟨h1, h2, h3, h4⟩ := hok
  intro hls hfs
  refine AW.drawB hmix ok m (by intro e he; have := List.all_eq_true.1 hWm e he; simpa using this) Ls vs h4 hlen h2 (nodupB_iff h3) hls hfs ?_
  rw [dropL_eq] at hos'
  subst hos'
  have hT' := hT m rfl
  rw [List.length_drop, Array.length_toList] at hT'
  refine AOps.sub ?_ hT'
  intro ρ F a w hR
  refine ⟨ρ, F, hR.subset ?_ ?_ ?_, Fr.refl _ _ _⟩
  · subst hst hn; rfl
  · intro p hp
    subst ht
    simp only [dSt, List.mem_append]
    rw [← hpre, dstsS_true, partT_vW]
    have hb : base = dropTs (dsts pre) (st.drops Ls).t := by rw [hbase, hst]
    rw [← hb]
    rcases mem_insAll (i := 0) hp with h | h
    · exact .inl h
    · exact .inr h
  · intro p hp
    subst hhh
    simp only [dSt, List.mem_append]
    rw [← hpre]
    rcases mem_insAllH (i := 0) hp with h | h
    · exact .inl h
    · exact .inr h
theorem ADLB.d1 {P : Program} {id : Nat} {ops : Array Oper} {W : Wr} {m : Nat} {Ls : List Nat} {K : Exit → St → Prop} {st : St} {pre : List Oper} {st1 : St} {base : List (Nat × AV)} {o : Oper} {os : List Oper} {vs vs' : List (AV × Option Blk)} {v : AV × Option Blk}
    (hoff : offW W vs.length = true := by exact rfl)
    (hr : dStepL P st.n ops.toList Ls (dVw st1 pre base vs o) o = some v := by
      simp only [dRunK, dStepL, dVw, pickT, predsL, inL, dEval, lOk, runK, stepL, memOp, pureOp, gOkL, dstAt, dOk, St.eval, St.evalO, get?, St.put, ins, del, AV.ofV, aBinAll, aBin, aBinI, aBinA, csEq, cEq, rI, isC, aUn, aConv, aStr, nums_by8, aIface, aNil, aCallB, aLen, aMinMax, intOf?, bnd, Go.Proofs.Ytdbpjegocmdplaa.E.ld, Go.Proofs.Ytdbpjegocmdplaa.E.part, Go.Proofs.Ytdbpjegocmdplaa.E.takeAgg_tk, Go.Proofs.Ytdbpjegocmdplaa.E.tk, aFieldAddr, aIndexAddr, aField, aIndex, aBuildSlice, cBuild, aAlloc, aStore, aApp, srcCells, aFill, mapM?, St.parts, St.new, St.drop, mapT, mapH, kill, kills, AV.cells, AV.fits, AV.one, AV.free, frees, splice, cyc, lab, Value.oneCell', Value.cells, Option.bind_some, Option.map_some, Option.bind_none, Option.map_none, decide_true, decide_false, if_true, if_false, reduceIte, reduceCtorEq, Bool.false_eq_true, Nat.reduceLT, Nat.reduceEqDiff, Nat.reduceAdd, Nat.reduceMul, Nat.reduceLeDiff, Nat.reduceSub, Nat.zero_add, Nat.add_zero, Nat.zero_mul, Nat.one_mul, Nat.mul_one, Int.toNat_natCast, Int.toNat_zero, List.drop_succ_cons, List.drop_zero, List.take_succ_cons, List.take_zero, List.length_cons, List.length_nil, List.head?_cons, List.map_cons, List.map_nil, List.all_cons, List.all_nil, List.cons_append, List.nil_append, List.append_nil, List.set_cons_zero, List.set_cons_succ, List.getElem?_cons_zero, List.getElem?_cons_succ, Bool.not_true, Bool.not_false, beq_true, beq_false, Bool.true_beq, Bool.false_beq, Bool.and_self, Bool.and_true, Bool.true_and, and_self, and_true, true_and, false_implies, true_implies, implies_true, bne_self_eq_false, beq_self_eq_true, Option.isSome_some, List.all, *]
      exact rfl)
    (hvs : vs ++ [v] = vs' := by simp only [List.cons_append, List.nil_append]; exact rfl)
    (h : ADLB P id ops W m Ls K st pre st1 base os vs') : ADLB P id ops W m Ls K st pre st1 base (o :: os) vs := by
  subst hvs; exact ADLB.pure hoff hr h
theorem ADLB.st {P : Program} {id : Nat} {ops : Array Oper} {W : Wr} {m : Nat} {Ls : List Nat} {K : Exit → St → Prop} {st : St} {pre : List Oper} {st1 : St} {base : List (Nat × AV)} {o : Oper} {os : List Oper} {vs vs' : List (AV × Option Blk)} {t l off z : Nat} {x y : Operand} {u : AV} {B B' : Blk}
    (hd : o.dst = none := by exact rfl) (hop : o.op = .store t x y := by exact rfl) (hg : gOkL ops.toList (dVw st1 pre base vs o) o.guard = some true := by exact rfl)
    (hx : (dVw st1 pre base vs o).eval x = some (.ptr l off) := by
      simp only [dRunK, dStepL, dVw, pickT, predsL, inL, dEval, lOk, runK, stepL, memOp, pureOp, gOkL, dstAt, dOk, St.eval, St.evalO, get?, St.put, ins, del, AV.ofV, aBinAll, aBin, aBinI, aBinA, csEq, cEq, rI, isC, aUn, aConv, aStr, nums_by8, aIface, aNil, aCallB, aLen, aMinMax, intOf?, bnd, Go.Proofs.Ytdbpjegocmdplaa.E.ld, Go.Proofs.Ytdbpjegocmdplaa.E.part, Go.Proofs.Ytdbpjegocmdplaa.E.takeAgg_tk, Go.Proofs.Ytdbpjegocmdplaa.E.tk, aFieldAddr, aIndexAddr, aField, aIndex, aBuildSlice, cBuild, aAlloc, aStore, aApp, srcCells, aFill, mapM?, St.parts, St.new, St.drop, mapT, mapH, kill, kills, AV.cells, AV.fits, AV.one, AV.free, frees, splice, cyc, lab, Value.oneCell', Value.cells, Option.bind_some, Option.map_some, Option.bind_none, Option.map_none, decide_true, decide_false, if_true, if_false, reduceIte, reduceCtorEq, Bool.false_eq_true, Nat.reduceLT, Nat.reduceEqDiff, Nat.reduceAdd, Nat.reduceMul, Nat.reduceLeDiff, Nat.reduceSub, Nat.zero_add, Nat.add_zero, Nat.zero_mul, Nat.one_mul, Nat.mul_one, Int.toNat_natCast, Int.toNat_zero, List.drop_succ_cons, List.drop_zero, List.take_succ_cons, List.take_zero, List.length_cons, List.length_nil, List.head?_cons, List.map_cons, List.map_nil, List.all_cons, List.all_nil, List.cons_append, List.nil_append, List.append_nil, List.set_cons_zero, List.set_cons_succ, List.getElem?_cons_zero, List.getElem?_cons_succ, Bool.not_true, Bool.not_false, beq_true, beq_false, Bool.true_beq, Bool.false_beq, Bool.and_self, Bool.and_true, Bool.true_and, and_self, and_true, true_and, false_implies, true_implies, implies_true, bne_self_eq_false, beq_self_eq_true, Option.isSome_some, List.all, *]
      exact rfl)
    (hy : (dVw st1 pre base vs o).eval y = some u := by
      simp only [dRunK, dStepL, dVw, pickT, predsL, inL, dEval, lOk, runK, stepL, memOp, pureOp, gOkL, dstAt, dOk, St.eval, St.evalO, get?, St.put, ins, del, AV.ofV, aBinAll, aBin, aBinI, aBinA, csEq, cEq, rI, isC, aUn, aConv, aStr, nums_by8, aIface, aNil, aCallB, aLen, aMinMax, intOf?, bnd, Go.Proofs.Ytdbpjegocmdplaa.E.ld, Go.Proofs.Ytdbpjegocmdplaa.E.part, Go.Proofs.Ytdbpjegocmdplaa.E.takeAgg_tk, Go.Proofs.Ytdbpjegocmdplaa.E.tk, aFieldAddr, aIndexAddr, aField, aIndex, aBuildSlice, cBuild, aAlloc, aStore, aApp, srcCells, aFill, mapM?, St.parts, St.new, St.drop, mapT, mapH, kill, kills, AV.cells, AV.fits, AV.one, AV.free, frees, splice, cyc, lab, Value.oneCell', Value.cells, Option.bind_some, Option.map_some, Option.bind_none, Option.map_none, decide_true, decide_false, if_true, if_false, reduceIte, reduceCtorEq, Bool.false_eq_true, Nat.reduceLT, Nat.reduceEqDiff, Nat.reduceAdd, Nat.reduceMul, Nat.reduceLeDiff, Nat.reduceSub, Nat.zero_add, Nat.add_zero, Nat.zero_mul, Nat.one_mul, Nat.mul_one, Int.toNat_natCast, Int.toNat_zero, List.drop_succ_cons, List.drop_zero, List.take_succ_cons, List.take_zero, List.length_cons, List.length_nil, List.head?_cons, List.map_cons, List.map_nil, List.all_cons, List.all_nil, List.cons_append, List.nil_append, List.append_nil, List.set_cons_zero, List.set_cons_succ, List.getElem?_cons_zero, List.getElem?_cons_succ, Bool.not_true, Bool.not_false, beq_true, beq_false, Bool.true_beq, Bool.false_beq, Bool.and_self, Bool.and_true, Bool.true_and, and_self, and_true, true_and, false_implies, true_implies, implies_true, bne_self_eq_false, beq_self_eq_true, Option.isSome_some, List.all, *]
      exact rfl)
    (hB : get? l (st.drops Ls).h = some B := by simp only [St.drops, St.drop, mapT, mapH, kill, kills, del, get?, reduceIte, Nat.reduceEqDiff]; exact rfl) (hz : tSz P t = some z := by simp only [*]; exact rfl)
    (hc : u.fits = true ∧ u.cells.length = z ∧ 0 < z ∧ off + z ≤ B.cs.length ∧ (B.boxy = false → frees u.cells = true) := by
      simp only [dRunK, dStepL, dVw, pickT, predsL, inL, dEval, lOk, runK, stepL, memOp, pureOp, gOkL, dstAt, dOk, St.eval, St.evalO, get?, St.put, ins, del, AV.ofV, aBinAll, aBin, aBinI, aBinA, csEq, cEq, rI, isC, aUn, aConv, aStr, nums_by8, aIface, aNil, aCallB, aLen, aMinMax, intOf?, bnd, Go.Proofs.Ytdbpjegocmdplaa.E.ld, Go.Proofs.Ytdbpjegocmdplaa.E.part, Go.Proofs.Ytdbpjegocmdplaa.E.takeAgg_tk, Go.Proofs.Ytdbpjegocmdplaa.E.tk, aFieldAddr, aIndexAddr, aField, aIndex, aBuildSlice, cBuild, aAlloc, aStore, aApp, srcCells, aFill, mapM?, St.parts, St.new, St.drop, mapT, mapH, kill, kills, AV.cells, AV.fits, AV.one, AV.free, frees, splice, cyc, lab, Value.oneCell', Value.cells, Option.bind_some, Option.map_some, Option.bind_none, Option.map_none, decide_true, decide_false, if_true, if_false, reduceIte, reduceCtorEq, Bool.false_eq_true, Nat.reduceLT, Nat.reduceEqDiff, Nat.reduceAdd, Nat.reduceMul, Nat.reduceLeDiff, Nat.reduceSub, Nat.zero_add, Nat.add_zero, Nat.zero_mul, Nat.one_mul, Nat.mul_one, Int.toNat_natCast, Int.toNat_zero, List.drop_succ_cons, List.drop_zero, List.take_succ_cons, List.take_zero, List.length_cons, List.length_nil, List.head?_cons, List.map_cons, List.map_nil, List.all_cons, List.all_nil, List.cons_append, List.nil_append, List.append_nil, List.set_cons_zero, List.set_cons_succ, List.getElem?_cons_zero, List.getElem?_cons_succ, Bool.not_true, Bool.not_false, beq_true, beq_false, Bool.true_beq, Bool.false_beq, Bool.and_self, Bool.and_true, Bool.true_and, and_self, and_true, true_and, false_implies, true_implies, implies_true, bne_self_eq_false, beq_self_eq_true, Option.isSome_some, List.all, *])
    (hB' : ({ B with cs := splice off u.cells B.cs } : Blk) = B' := by simp only [splice, AV.cells, *]; exact rfl) (hm : (vs.length, l, B') ∈ W := by first | exact List.mem_cons_self | exact List.mem_cons_of_mem _ List.mem_cons_self)
    (hvs : vs ++ [(.dead, none)] = vs' := by simp only [List.cons_append, List.nil_append]; exact rfl)
    (h : ADLB P id ops W m Ls K st pre st1 base os vs') : ADLB P id ops W m Ls K st pre st1 base (o :: os) vs := ADLB.write hd hop hg hx hy (.inl hB) hz hc hB' hm hvs h
theorem ADLB.sb {P : Program} {id : Nat} {ops : Array Oper} {W : Wr} {m : Nat} {Ls : List Nat} {K : Exit → St → Prop} {st : St} {pre : List Oper} {st1 : St} {base : List (Nat × AV)} {o : Oper} {os : List Oper} {vs vs' : List (AV × Option Blk)} {t l off z : Nat} {x y : Operand} {u : AV} {B B' : Blk}
    (j : Nat) {o' : Oper} {v' : AV × Option Blk} {d : Tmp} (hd : o.dst = none := by exact rfl) (hop : o.op = .store t x y := by exact rfl) (hg : gOkL ops.toList (dVw st1 pre base vs o) o.guard = some true := by exact rfl)
    (hx : (dVw st1 pre base vs o).eval x = some (.ptr l off) := by
      simp only [dRunK, dStepL, dVw, pickT, predsL, inL, dEval, lOk, runK, stepL, memOp, pureOp, gOkL, dstAt, dOk, St.eval, St.evalO, get?, St.put, ins, del, AV.ofV, aBinAll, aBin, aBinI, aBinA, csEq, cEq, rI, isC, aUn, aConv, aStr, nums_by8, aIface, aNil, aCallB, aLen, aMinMax, intOf?, bnd, Go.Proofs.Ytdbpjegocmdplaa.E.ld, Go.Proofs.Ytdbpjegocmdplaa.E.part, Go.Proofs.Ytdbpjegocmdplaa.E.takeAgg_tk, Go.Proofs.Ytdbpjegocmdplaa.E.tk, aFieldAddr, aIndexAddr, aField, aIndex, aBuildSlice, cBuild, aAlloc, aStore, aApp, srcCells, aFill, mapM?, St.parts, St.new, St.drop, mapT, mapH, kill, kills, AV.cells, AV.fits, AV.one, AV.free, frees, splice, cyc, lab, Value.oneCell', Value.cells, Option.bind_some, Option.map_some, Option.bind_none, Option.map_none, decide_true, decide_false, if_true, if_false, reduceIte, reduceCtorEq, Bool.false_eq_true, Nat.reduceLT, Nat.reduceEqDiff, Nat.reduceAdd, Nat.reduceMul, Nat.reduceLeDiff, Nat.reduceSub, Nat.zero_add, Nat.add_zero, Nat.zero_mul, Nat.one_mul, Nat.mul_one, Int.toNat_natCast, Int.toNat_zero, List.drop_succ_cons, List.drop_zero, List.take_succ_cons, List.take_zero, List.length_cons, List.length_nil, List.head?_cons, List.map_cons, List.map_nil, List.all_cons, List.all_nil, List.cons_append, List.nil_append, List.append_nil, List.set_cons_zero, List.set_cons_succ, List.getElem?_cons_zero, List.getElem?_cons_succ, Bool.not_true, Bool.not_false, beq_true, beq_false, Bool.true_beq, Bool.false_beq, Bool.and_self, Bool.and_true, Bool.true_and, and_self, and_true, true_and, false_implies, true_implies, implies_true, bne_self_eq_false, beq_self_eq_true, Option.isSome_some, List.all, *]
      exact rfl)
    (hy : (dVw st1 pre base vs o).eval y = some u := by
      simp only [dRunK, dStepL, dVw, pickT, predsL, inL, dEval, lOk, runK, stepL, memOp, pureOp, gOkL, dstAt, dOk, St.eval, St.evalO, get?, St.put, ins, del, AV.ofV, aBinAll, aBin, aBinI, aBinA, csEq, cEq, rI, isC, aUn, aConv, aStr, nums_by8, aIface, aNil, aCallB, aLen, aMinMax, intOf?, bnd, Go.Proofs.Ytdbpjegocmdplaa.E.ld, Go.Proofs.Ytdbpjegocmdplaa.E.part, Go.Proofs.Ytdbpjegocmdplaa.E.takeAgg_tk, Go.Proofs.Ytdbpjegocmdplaa.E.tk, aFieldAddr, aIndexAddr, aField, aIndex, aBuildSlice, cBuild, aAlloc, aStore, aApp, srcCells, aFill, mapM?, St.parts, St.new, St.drop, mapT, mapH, kill, kills, AV.cells, AV.fits, AV.one, AV.free, frees, splice, cyc, lab, Value.oneCell', Value.cells, Option.bind_some, Option.map_some, Option.bind_none, Option.map_none, decide_true, decide_false, if_true, if_false, reduceIte, reduceCtorEq, Bool.false_eq_true, Nat.reduceLT, Nat.reduceEqDiff, Nat.reduceAdd, Nat.reduceMul, Nat.reduceLeDiff, Nat.reduceSub, Nat.zero_add, Nat.add_zero, Nat.zero_mul, Nat.one_mul, Nat.mul_one, Int.toNat_natCast, Int.toNat_zero, List.drop_succ_cons, List.drop_zero, List.take_succ_cons, List.take_zero, List.length_cons, List.length_nil, List.head?_cons, List.map_cons, List.map_nil, List.all_cons, List.all_nil, List.cons_append, List.nil_append, List.append_nil, List.set_cons_zero, List.set_cons_succ, List.getElem?_cons_zero, List.getElem?_cons_succ, Bool.not_true, Bool.not_false, beq_true, beq_false, Bool.true_beq, Bool.false_beq, Bool.and_self, Bool.and_true, Bool.true_and, and_self, and_true, true_and, false_implies, true_implies, implies_true, bne_self_eq_false, beq_self_eq_true, Option.isSome_some, List.all, *]
      exact rfl)
    (g1 : pre[j]? = some o' := by exact rfl) (g2 : vs[j]? = some v' := by exact rfl) (g3 : o'.dst = some d := by exact rfl) (g4 : lab d = l := by exact rfl) (g5 : v'.2 = some B := by exact rfl) (g6 : j ∈ dpreds o := by decide)
    (hz : tSz P t = some z := by simp only [*]; exact rfl)
    (hc : u.fits = true ∧ u.cells.length = z ∧ 0 < z ∧ off + z ≤ B.cs.length ∧ (B.boxy = false → frees u.cells = true) := by
      simp only [dRunK, dStepL, dVw, pickT, predsL, inL, dEval, lOk, runK, stepL, memOp, pureOp, gOkL, dstAt, dOk, St.eval, St.evalO, get?, St.put, ins, del, AV.ofV, aBinAll, aBin, aBinI, aBinA, csEq, cEq, rI, isC, aUn, aConv, aStr, nums_by8, aIface, aNil, aCallB, aLen, aMinMax, intOf?, bnd, Go.Proofs.Ytdbpjegocmdplaa.E.ld, Go.Proofs.Ytdbpjegocmdplaa.E.part, Go.Proofs.Ytdbpjegocmdplaa.E.takeAgg_tk, Go.Proofs.Ytdbpjegocmdplaa.E.tk, aFieldAddr, aIndexAddr, aField, aIndex, aBuildSlice, cBuild, aAlloc, aStore, aApp, srcCells, aFill, mapM?, St.parts, St.new, St.drop, mapT, mapH, kill, kills, AV.cells, AV.fits, AV.one, AV.free, frees, splice, cyc, lab, Value.oneCell', Value.cells, Option.bind_some, Option.map_some, Option.bind_none, Option.map_none, decide_true, decide_false, if_true, if_false, reduceIte, reduceCtorEq, Bool.false_eq_true, Nat.reduceLT, Nat.reduceEqDiff, Nat.reduceAdd, Nat.reduceMul, Nat.reduceLeDiff, Nat.reduceSub, Nat.zero_add, Nat.add_zero, Nat.zero_mul, Nat.one_mul, Nat.mul_one, Int.toNat_natCast, Int.toNat_zero, List.drop_succ_cons, List.drop_zero, List.take_succ_cons, List.take_zero, List.length_cons, List.length_nil, List.head?_cons, List.map_cons, List.map_nil, List.all_cons, List.all_nil, List.cons_append, List.nil_append, List.append_nil, List.set_cons_zero, List.set_cons_succ, List.getElem?_cons_zero, List.getElem?_cons_succ, Bool.not_true, Bool.not_false, beq_true, beq_false, Bool.true_beq, Bool.false_beq, Bool.and_self, Bool.and_true, Bool.true_and, and_self, and_true, true_and, false_implies, true_implies, implies_true, bne_self_eq_false, beq_self_eq_true, Option.isSome_some, List.all, *])
    (hB' : ({ B with cs := splice off u.cells B.cs } : Blk) = B' := by simp only [splice, AV.cells, *]; exact rfl) (hm : (vs.length, l, B') ∈ W := by first | exact List.mem_cons_self | exact List.mem_cons_of_mem _ List.mem_cons_self)
    (hvs : vs ++ [(.dead, none)] = vs' := by simp only [List.cons_append, List.nil_append]; exact rfl)
    (h : ADLB P id ops W m Ls K st pre st1 base os vs') : ADLB P id ops W m Ls K st pre st1 base (o :: os) vs := by
  intro hok hpre
  exact ADLB.write hd hop hg hx hy (.inr ⟨j, o', v', d, by rw [← hpre]; exact g1, g2, g3, g4, g5, g6⟩) hz hc hB' hm hvs h hok hpre
theorem AW.db {P : Program} {id : Nat} {ops : Array Oper} {K : Exit → St → Prop} {st st1 : St} {base : List (Nat × AV)} {pre : List Oper} (W : Wr) (m : Nat) (Ls : List Nat) (hok : drawOk ops m = true)
    (hst : (⟨(st.drops Ls).n, (st.drops Ls).t, hV W (st.drops Ls).h⟩ : St) = st1 := by simp only [St.drops, St.drop, mapT, mapH, kill, kills, del, hV, inW, reduceIte, Nat.reduceEqDiff]; exact rfl)
    (hp : takeL m ops.toList = pre := by simp only [takeL]; exact rfl)
    (hb : dropTL (dsts pre) st1.t = base := by simp only [dsts, dropTL, inL, List.cons_append, List.nil_append, List.append_nil, reduceIte, Nat.reduceEqDiff]; exact rfl)
    (h : ADLB P id ops W m Ls K st pre st1 base pre []) : AW P (.region id ops true) K st := AW.drwB W m Ls hok hst hp hb h
theorem ADLB.fin {P : Program} {id : Nat} {ops : Array Oper} {W : Wr} {m : Nat} {Ls : List Nat} {K : Exit → St → Prop} {st : St} {pre : List Oper} {st1 : St} {base t : List (Nat × AV)} {hh : List (Nat × Blk)} {vs : List (AV × Option Blk)} {n : Nat} (hmix : P.follows .mixedOrders = true) (ok : okW W = true) (hWm : (W.all fun e => decide (e.1 < m)) = true) (hlen : vs.length = m)
    (hn : st1.n = n) (ht : insAll base pre vs = t := by simp only [insAll, ins, del, reduceIte, Nat.reduceLT, Nat.reduceEqDiff]; exact rfl) (hhh : insAllH (hW W (fun _ => true) (st.drops Ls).h) pre (vW W (fun _ => true) pre vs) = hh := by simp only [St.drops, St.drop, mapT, mapH, kill, kills, hW, vW, vW1, Option.map_some, Option.map_none, newB, List.map_cons, List.map_nil, insAllH, ins, del, lab, reduceIte, Nat.reduceLT, Nat.reduceEqDiff, Nat.reduceAdd, Nat.reduceMul, Bool.false_eq_true]; exact rfl)
    {os' : List Oper} (hos' : dropL m ops.toList = os' := by simp only [dropL]; exact rfl) (hT : AOL P ops os' (K .normal) ⟨n, t, hh⟩) : ADLB P id ops W m Ls K st pre st1 base [] vs := ADLB.done hmix ok hWm hlen hn ht hhh hos' hT
end Go.Proofs.Ytdbpjegocmdplaa.E
end
section
/- Points times numbers, together; whether points are of order R: contracts over E. -/
set_option linter.unusedVariables false
set_option linter.unusedSimpArgs false
set_option maxRecDepth 10000
open Go Go.Proofs.Ytdbpjegocmdplaa.E Go.Proofs
namespace Go.Proofs.Ytdbpjegocmdplaa.E.M
abbrev TFg : Prop := tSz Try.prog 43 = some 9 ∧
    tAgg Try.prog 43 = some true ∧
    tBytes Try.prog 43 = some 72 ∧
    tZero Try.prog 43 = some [(.bool false), (.int .u64 0), (.int .u64 0), (.bool false), (.int .u64 0), (.int .u64 0), (.bool false), (.int .u64 0), (.int .u64 0)] ∧
    tSlice Try.prog 43 = none ∧
    tIface Try.prog 43 = some false ∧
    tCls Try.prog 43 = .other ∧
    tField Try.prog 43 0 = some (0, 32) ∧
    tField Try.prog 43 1 = some (3, 32) ∧
    tField Try.prog 43 2 = some (6, 32) ∧
    (∀ ps, aBuild Try.prog 43 ps = (aFill ([(0, 3), (3, 3), (6, 3)][·]?) [.val (.bool false), .val (.int .u64 0), .val (.int .u64 0), .val (.bool false), .val (.int .u64 0), .val (.int .u64 0), .val (.bool false), .val (.int .u64 0), .val (.int .u64 0)] ps).map .agg) ∧
    tSz Try.prog 85 = some 9 ∧
    tAgg Try.prog 85 = some true ∧
    tBytes Try.prog 85 = some 72 ∧
    tZero Try.prog 85 = some [(.bool false), (.int .u64 0), (.int .u64 0), (.bool false), (.int .u64 0), (.int .u64 0), (.bool false), (.int .u64 0), (.int .u64 0)] ∧
    tSlice Try.prog 85 = none ∧
    tArray Try.prog 85 = some (3, 32) ∧
    Try.prog.underlying 85 = some (.array 3 32) ∧
    tIface Try.prog 85 = some false ∧
    tCls Try.prog 85 = .other ∧
    (∀ ps, aBuild Try.prog 85 ps = (aFill (fun i => some (i * 3, 3)) [.val (.bool false), .val (.int .u64 0), .val (.int .u64 0), .val (.bool false), .val (.int .u64 0), .val (.int .u64 0), .val (.bool false), .val (.int .u64 0), .val (.int .u64 0)] ps).map .agg) ∧
    tSz Try.prog 27 = some 5 ∧
    tAgg Try.prog 27 = some true ∧
    tBytes Try.prog 27 = some 40 ∧
    tZero Try.prog 27 = some [(.int .u64 0), (.int .u64 0), (.int .u64 0), (.int .u64 0), (.int .u64 0)] ∧
    tSlice Try.prog 27 = none ∧
    tIface Try.prog 27 = some false ∧
    tCls Try.prog 27 = .other ∧
    tField Try.prog 27 0 = some (0, 25) ∧
    tField Try.prog 27 1 = some (1, 25) ∧
    tField Try.prog 27 2 = some (2, 25) ∧
    tField Try.prog 27 3 = some (3, 25) ∧
    tField Try.prog 27 4 = some (4, 25) ∧
    (∀ ps, aBuild Try.prog 27 ps = (aFill ([(0, 1), (1, 1), (2, 1), (3, 1), (4, 1)][·]?) [.val (.int .u64 0), .val (.int .u64 0), .val (.int .u64 0), .val (.int .u64 0), .val (.int .u64 0)] ps).map .agg) ∧
    tSz Try.prog 35 = some 13 ∧
    tAgg Try.prog 35 = some true ∧
    tBytes Try.prog 35 = some 168 ∧
    tZero Try.prog 35 = some [(.bool false), (.int .u64 0), (.int .u64 0), (.bool false), (.int .u64 0), (.int .u64 0), (.bool false), (.int .u64 0), (.int .u64 0), (.slice none 0 0), (.slice none 0 0), (.slice none 0 0), (.slice none 0 0)] ∧
    tSlice Try.prog 35 = none ∧
    tIface Try.prog 35 = some false ∧
    tCls Try.prog 35 = .other ∧
    tField Try.prog 35 0 = some (0, 32) ∧
    tField Try.prog 35 1 = some (3, 32) ∧
    tField Try.prog 35 2 = some (6, 32) ∧
    tField Try.prog 35 3 = some (9, 33) ∧
    tField Try.prog 35 4 = some (10, 33) ∧
    tField Try.prog 35 5 = some (11, 33) ∧
    tField Try.prog 35 6 = some (12, 33) ∧
    (∀ ps, aBuild Try.prog 35 ps = (aFill ([(0, 3), (3, 3), (6, 3), (9, 1), (10, 1), (11, 1), (12, 1)][·]?) [.val (.bool false), .val (.int .u64 0), .val (.int .u64 0), .val (.bool false), .val (.int .u64 0), .val (.int .u64 0), .val (.bool false), .val (.int .u64 0), .val (.int .u64 0), .val (.slice none 0 0), .val (.slice none 0 0), .val (.slice none 0 0), .val (.slice none 0 0)] ps).map .agg) ∧
    tSz Try.prog 37 = some 13 ∧
    tAgg Try.prog 37 = some true ∧
    tBytes Try.prog 37 = some 120 ∧
    tZero Try.prog 37 = some [(.bool false), (.int .u64 0), (.int .u64 0), (.bool false), (.int .u64 0), (.int .u64 0), (.bool false), (.int .u64 0), (.int .u64 0), (.bool false), (.int .u64 0), (.int .u64 0), (.slice none 0 0)] ∧
    tSlice Try.prog 37 = none ∧
    tIface Try.prog 37 = some false ∧
    tCls Try.prog 37 = .other ∧
    tField Try.prog 37 0 = some (0, 32) ∧
    tField Try.prog 37 1 = some (3, 32) ∧
    tField Try.prog 37 2 = some (6, 32) ∧
    tField Try.prog 37 3 = some (9, 32) ∧
    tField Try.prog 37 4 = some (12, 33) ∧
    (∀ ps, aBuild Try.prog 37 ps = (aFill ([(0, 3), (3, 3), (6, 3), (9, 3), (12, 1)][·]?) [.val (.bool false), .val (.int .u64 0), .val (.int .u64 0), .val (.bool false), .val (.int .u64 0), .val (.int .u64 0), .val (.bool false), .val (.int .u64 0), .val (.int .u64 0), .val (.bool false), .val (.int .u64 0), .val (.int .u64 0), .val (.slice none 0 0)] ps).map .agg)
theorem tfg : TFg :=
  ⟨rfl, rfl, rfl, rfl, rfl, rfl, rfl, rfl, rfl, rfl, fun _ => rfl, rfl, rfl, rfl, rfl, rfl, rfl, rfl, rfl, rfl, fun _ => rfl, rfl, rfl, rfl, rfl, rfl, rfl, rfl, rfl, rfl, rfl, rfl, rfl, fun _ => rfl, rfl, rfl, rfl, rfl, rfl, rfl, rfl, rfl, rfl, rfl, rfl, rfl, rfl, rfl, fun _ => rfl, rfl, rfl, rfl, rfl, rfl, rfl, rfl, rfl, rfl, rfl, rfl, rfl, fun _ => rfl⟩
abbrev pl (L : List P3) : AV := slF ptc L
theorem pl_at {L : List P3} {n : Nat} {g : P3} (h : L[n]? = some g) : (fm ptc L).drop (n * 3) = bo g.1 :: u g.2.1 :: u g.2.2 :: fm ptc (L.drop (n + 1)) := by
  have hl := (List.getElem?_eq_some_iff.1 h).1
  have := fm_at ptc_len hl
  rw [List.getElem?_eq_getElem hl] at h
  rw [Option.some.inj h] at this
  exact this
abbrev wP3 (t : P3) : Prop := w64 t.2.1 ∧ w64 t.2.2
theorem Pt.w3 {t : P3} (h : Pt t) : wP3 t := ⟨h.wx.1.w, h.wx.2.w⟩
def addG (a b : P3) : P3 := sumP (sureP a.1 a.2.1 a.2.2) (sureP b.1 b.2.1 b.2.2)
def mulG (a : P3) (k : Int) : P3 := timesP (sureP a.1 a.2.1 a.2.2) k
theorem addG_pt (a b : P3) : Pt (addG a b) := sumP_pt (sureP_pt _ _ _) (sureP_pt _ _ _)
theorem mulG_pt (a : P3) (k : Int) : Pt (mulG a k) := timesP_pt (sureP_pt _ _ _) k
def togF : P3 → List P3 → List Int → P3
  | a, g :: L, k :: N => togF (addG a (mulG g k)) L N
  | a, _, _ => a
theorem togF_w : ∀ (L : List P3) (N : List Int) {a : P3}, wP3 a → wP3 (togF a L N)
  | g :: L, k :: N, a, h => togF_w L N (Pt.w3 (addG_pt _ _))
  | [], _, a, h => by simp only [togF]; exact h
  | _ :: _, [], a, h => by simp only [togF]; exact h
set_option maxHeartbeats 1000000 in
theorem groth_mul_c {a b : Int} (ha : w64 a) (hb : w64 b) : Fn Try.prog 29 [u a, u b] [] (fun r h_ => r = u (a * b % 288230376287764481)) := by
  refine Fn.enter Try.func29 Try.ntmps29 rfl (h := ?_)
  have tf := tf
  have ot_ : (false || true) = true := rfl
  repeat refine AW.seq ?_
  refine AW.reg ?_
  iterate 1 refine AOL.s1 (h := ?_)
  refine AOL.nil ?_
  refine AW.kq [0, 1] (h := ?_)
  repeat refine AW.seq ?_
  refine AW.reg ?_
  iterate 2 refine AOL.s1 (h := ?_)
  refine AOL.callD rfl (modular_Mul_c hR ha hb) (by kernel_rfl) rfl rfl (h := ?_)
  iterate 1 refine AOL.s1 (h := ?_)
  refine AOL.nil ?_
  refine AW.kq [4] (h := ?_)
  repeat refine AW.seq ?_
  refine AW.ret ?_
  refine ⟨_, [], rfl, HOk.nil _, ?_⟩
  rfl
set_option maxHeartbeats 1000000 in
theorem groth_add_c {a b : Int} (ha : w64 a) (hb : w64 b) : Fn Try.prog 28 [u a, u b] [] (fun r h_ => r = u ((a + b) % 288230376287764481)) := by
  refine Fn.enter Try.func28 Try.ntmps28 rfl (h := ?_)
  have tf := tf
  have ot_ : (false || true) = true := rfl
  repeat refine AW.seq ?_
  refine AW.reg ?_
  iterate 1 refine AOL.s1 (h := ?_)
  refine AOL.nil ?_
  refine AW.kq [0, 1] (h := ?_)
  repeat refine AW.seq ?_
  refine AW.reg ?_
  iterate 2 refine AOL.s1 (h := ?_)
  refine AOL.callD rfl (modular_Add_c hR ha hb) (by kernel_rfl) rfl rfl (h := ?_)
  iterate 1 refine AOL.s1 (h := ?_)
  refine AOL.nil ?_
  refine AW.kq [4] (h := ?_)
  repeat refine AW.seq ?_
  refine AW.ret ?_
  refine ⟨_, [], rfl, HOk.nil _, ?_⟩
  rfl
set_option maxHeartbeats 1000000 in
theorem groth_point_c {k : Int} (hk : w64 k) : Fn Try.prog 26 [u k] [] (fun r h_ => r = pt (timesP GG k)) := by
  refine Fn.enter Try.func26 Try.ntmps26 rfl (h := ?_)
  have tf := tf
  have ot_ : (false || true) = true := rfl
  have tfg := tfg
  have tfr := tfr
  have tfl := tfl
  have cm := curve_Mul_c (b := false) (x := 247390119040843104) (y := 830327839767444578) (by decide) (by decide) hk
  have cg := curve_Gen_c
  rw [show sureP false 247390119040843104 830327839767444578 = GG from sureP_of gg_pt] at cm
  generalize timesP GG k = g at *
  obtain ⟨g0, g1, g2⟩ := g
  repeat refine AW.seq ?_
  refine AW.reg ?_
  iterate 1 refine AOL.s1 (h := ?_)
  refine AOL.nil ?_
  refine AW.kq [0, 2] (h := ?_)
  repeat refine AW.seq ?_
  refine AW.reg ?_
  refine AOL.callD rfl (cg) (by kernel_rfl) rfl rfl (h := ?_)
  iterate 1 refine AOL.s1 (h := ?_)
  refine AOL.callD rfl (cm) (by kernel_rfl) rfl rfl (h := ?_)
  iterate 1 refine AOL.s1 (h := ?_)
  refine AOL.nil ?_
  refine AW.kq [2] (h := ?_)
  repeat refine AW.seq ?_
  refine AW.ret ?_
  refine ⟨_, [], rfl, HOk.nil _, ?_⟩
  rfl
set_option maxHeartbeats 1000000 in
theorem groth_Setup_1_c {v : Int} : Fn Try.prog 23 [u v] [] (fun r h_ => r = bo (decide (v ≥ 288230376287764481))) := by
  refine Fn.enter Try.func23 Try.ntmps23 rfl (h := ?_)
  have tf := tf
  have ot_ : (false || true) = true := rfl
  repeat refine AW.seq ?_
  refine AW.reg ?_
  iterate 1 refine AOL.s1 (h := ?_)
  refine AOL.nil ?_
  refine AW.kq [0] (h := ?_)
  repeat refine AW.seq ?_
  refine AW.reg ?_
  iterate 3 refine AOL.s1 (h := ?_)
  refine AOL.nil ?_
  refine AW.kq [2] (h := ?_)
  repeat refine AW.seq ?_
  refine AW.ret ?_
  refine ⟨_, [], rfl, HOk.nil _, ?_⟩
  rfl
set_option maxHeartbeats 1000000 in
theorem groth_Verify_1_c {v : Int} : Fn Try.prog 35 [u v] [] (fun r h_ => r = bo (decide (v ≥ 288230376287764481))) := by
  refine Fn.enter Try.func35 Try.ntmps35 rfl (h := ?_)
  have tf := tf
  have ot_ : (false || true) = true := rfl
  repeat refine AW.seq ?_
  refine AW.reg ?_
  iterate 1 refine AOL.s1 (h := ?_)
  refine AOL.nil ?_
  refine AW.kq [0] (h := ?_)
  repeat refine AW.seq ?_
  refine AW.reg ?_
  iterate 3 refine AOL.s1 (h := ?_)
  refine AOL.nil ?_
  refine AW.kq [2] (h := ?_)
  repeat refine AW.seq ?_
  refine AW.ret ?_
  refine ⟨_, [], rfl, HOk.nil _, ?_⟩
  rfl
set_option maxHeartbeats 1000000 in
theorem groth_Verify_2_c {g : P3} (hg : wP3 g) : Fn Try.prog 37 [pt g] [] (fun r h_ => r = bo (!inP g.1 g.2.1 g.2.2)) := by
  refine Fn.enter Try.func37 Try.ntmps37 rfl (h := ?_)
  have tf := tf
  have ot_ : (false || true) = true := rfl
  have ci := curve_In_c (b := g.1) hg.1 hg.2
  repeat refine AW.seq ?_
  refine AW.reg ?_
  iterate 2 refine AOL.s1 (h := ?_)
  refine AOL.nil ?_
  refine AW.kq [1] (h := ?_)
  repeat refine AW.seq ?_
  refine AW.reg ?_
  iterate 1 refine AOL.s1 (h := ?_)
  refine AOL.callD rfl (ci) (by kernel_rfl) rfl rfl (h := ?_)
  iterate 2 refine AOL.s1 (h := ?_)
  refine AOL.nil ?_
  refine AW.kq [2] (h := ?_)
  repeat refine AW.seq ?_
  refine AW.ret ?_
  refine ⟨_, [], rfl, HOk.nil _, ?_⟩
  rfl
set_option maxHeartbeats 8000000 in
theorem groth_together_c {a : P3} {L : List P3} {V : List Int} (ha : wP3 a) (hL : ∀ g ∈ L, wP3 g) (hV : wV V) (hl : V.length ≤ L.length) (lV : V.length < 1000000000) : Fn Try.prog 32 [pt a, pl L, ul V] [] (fun r h_ => r = pt (togF a L V)) := by
  refine Fn.enter Try.func32 Try.ntmps32 rfl (h := ?_)
  have tf := tf
  have ot_ : (false || true) = true := rfl
  have tfg := tfg
  have tfr := tfr
  have tfl := tfl
  repeat refine AW.seq ?_
  refine AW.reg ?_
  iterate 2 refine AOL.s1 (h := ?_)
  refine AOL.nil ?_
  refine AW.kq [1, 2, 3, 6] (h := ?_)
  repeat refine AW.seq ?_
  refine AW.reg ?_
  iterate 3 refine AOL.s1 (h := ?_)
  refine AOL.nil ?_
  refine AW.kq [1, 3, 6, 9, 10, 11] (h := ?_)
  repeat refine AW.seq ?_
  refine AW.block ?_
  repeat refine AW.seq ?_
  refine AW.loopK [1, 3, 6, 9, 10, 11] (fun n s => ∃ (j : Nat) (b : P3), s = ⟨26, [(1, pl L), (3, .ptr 1048 0), (6, .ptr 1096 0), (9, ul V), (10, i V.length), (11, i j)], [(1048, ⟨32, true, ptc b⟩), (1096, ⟨32, true, [bo false, u 0, u 0]⟩)]⟩ ∧ j ≤ V.length ∧ n = V.length - j ∧ wP3 b ∧ togF b (L.drop j) (V.drop j) = togF a L V) (V.length) ?_ ?_
  · exact ⟨0, a, rfl, Nat.zero_le _, rfl, ha, rfl⟩
  rintro n s ⟨j, b, rfl, jV, rfl, wb, hb⟩
  repeat refine AW.seq ?_
  refine AW.reg ?_
  iterate 1 refine AOL.s1 (h := ?_)
  refine AOL.nil ?_
  refine AW.kq [1, 3, 6, 9, 10, 11, 12] (h := ?_)
  repeat refine AW.seq ?_
  refine AW.cond rfl (fun c_ => ?_) (fun c_ => ?_)
  · have hj : j < V.length := by have : (j:Int) < V.length := by simpa using c_
                                 omega
    have hjL : j < L.length := by omega
    obtain ⟨v, hv, hvw, hvd⟩ := at_nat (V := V) (n := j) (by omega) hV
    have hg : L[j]? = some L[j] := List.getElem?_eq_getElem hjL
    have hgw := hL _ (List.getElem_mem hjL)
    have hgd := pl_at hg
    have j0 : (0:Int) ≤ j := by omega
    have j1 : (j:Int) < V.length := by omega
    have j2 : (j:Int) < L.length := by omega
    have hiw := incq hj (by omega)
    have hn : togF (addG b (mulG L[j] v)) (L.drop (j + 1)) (V.drop (j + 1)) = togF a L V := by
      rw [← hb, List.drop_eq_getElem_cons hj, List.drop_eq_getElem_cons hjL]
      rw [List.getElem?_eq_getElem hj] at hv
      simp only [togF, Option.some.inj hv]
    clear hb hg hv c_
    generalize L[j] = g at *
    have cm := curve_Mul_c (b := g.1) hgw.1 hgw.2 hvw
    have hm : Pt (mulG g v) := mulG_pt g v
    have em : timesP (sureP g.1 g.2.1 g.2.2) v = mulG g v := rfl
    rw [em] at cm
    have cA := curve_Add_c (a0 := b.1) (b0 := (mulG g v).1) wb.1 wb.2 hm.w3.1 hm.w3.2
    have eA : sumP (sureP b.1 b.2.1 b.2.2) (sureP (mulG g v).1 (mulG g v).2.1 (mulG g v).2.2) = addG b (mulG g v) := rfl
    rw [eA] at cA
    have wn := (addG_pt b (mulG g v)).w3
    clear em eA hm
    generalize addG b (mulG g v) = c at *
    generalize mulG g v = m at *
    obtain ⟨m0, m1, m2⟩ := m
    obtain ⟨g0, g1, g2⟩ := g
    obtain ⟨b0, b1, b2⟩ := b
    obtain ⟨c0, c1, c2⟩ := c
    refine AW.skip ?_
    repeat refine AW.seq ?_
    refine AW.block ?_
    repeat refine AW.seq ?_
    refine AW.reg ?_
    iterate 5 refine AOL.s1 (h := ?_)
    refine AOL.nil ?_
    refine AW.kq [1, 3, 6, 7, 8, 9, 10, 11] (h := ?_)
    repeat refine AW.seq ?_
    refine AW.drw 7 [] (by kernel_rfl) (h := ?_)
    iterate 6 refine ADL.dm 1 (h := ?_)
    refine ADL.call rfl (cm) (by kernel_rfl) rfl rfl (h := ?_)
    refine ADL.done hmix rfl rfl (hT := ?_)
    refine AOL.callD rfl (cA) (by kernel_rfl) rfl rfl (h := ?_)
    iterate 1 refine AOL.s1 (h := ?_)
    refine AOL.nil ?_
    repeat refine AW.seq ?_
    refine AW.reg ?_
    iterate 2 refine AOL.s1 (h := ?_)
    refine AOL.nil ?_
    exact ⟨V.length - (j + 1), by omega, j + 1, (c0, c1, c2), rfl, hj, rfl, wn, hn⟩
  · have hj : j = V.length := by have : ¬ (j:Int) < V.length := by simpa using c_
                                 omega
    subst hj
    have hg : b = togF a L V := by
      rw [← hb, List.drop_length]
      cases L.drop V.length <;> rfl
    rw [← hg]
    obtain ⟨b0, b1, b2⟩ := b
    clear hb hg
    repeat refine AW.seq ?_
    refine AW.exit ?_
    repeat (first | refine Kseq.ex ?_ | refine Kloop.ex ?_ | refine Kblock.miss (by decide) ?_)
    refine Kblock.hit ?_
    refine AW.kq [3, 6] (h := ?_)
    repeat refine AW.seq ?_
    refine AW.reg ?_
    iterate 2 refine AOL.s1 (h := ?_)
    refine AOL.nil ?_
    refine AW.kq [6] (h := ?_)
    repeat refine AW.seq ?_
    refine AW.ret ?_
    refine ⟨_, [], rfl, HOk.nil _, ?_⟩
    rfl
end Go.Proofs.Ytdbpjegocmdplaa.E.M
end
section
/- A proof's bytes: a contract over E. -/
set_option linter.unusedVariables false
set_option linter.unusedSimpArgs false
set_option maxRecDepth 10000
open Go Go.Proofs.Ytdbpjegocmdplaa.E Go.Proofs
namespace Go.Proofs.Ytdbpjegocmdplaa.E.M
abbrev pfc (a b c : P3) : List AV := [bo a.1, u a.2.1, u a.2.2, bo b.1, u b.2.1, u b.2.2, bo c.1, u c.2.1, u c.2.2]
abbrev pf (a b c : P3) : AV := .agg (pfc a b c)
def bytesG (a : P3) : List Int := bytesP a.1 a.2.1 a.2.2
def isG (a : P3) : Bool := isPt a.1 a.2.1 a.2.2
def writeG (a b c : P3) : AV := if (isG a && isG b && isG c) = true then .tup [sl8 (bytesG a ++ bytesG b ++ bytesG c), nil_] else .tup [.val (.slice none 0 0), er 1]
theorem bytesG_len (a : P3) : (bytesG a).length ≤ 17 := by
  unfold bytesG bytesP
  split
  · decide
  · simp [be]
set_option maxHeartbeats 16000000 in
theorem groth_Write_c {a b c : P3} (ha : wP3 a) (hb : wP3 b) (hc : wP3 c) : Fn Try.prog 12 [pf a b c] [] (fun r _ => r = writeG a b c) := by
  have ca := curve_Write_c (b := a.1) ha.1 ha.2
  have cb := curve_Write_c (b := b.1) hb.1 hb.2
  have cc := curve_Write_c (b := c.1) hc.1 hc.2
  unfold writeV at ca cb cc
  rw [show isPt a.1 a.2.1 a.2.2 = isG a from rfl, show bytesP a.1 a.2.1 a.2.2 = bytesG a from rfl] at ca
  rw [show isPt b.1 b.2.1 b.2.2 = isG b from rfl, show bytesP b.1 b.2.1 b.2.2 = bytesG b from rfl] at cb
  rw [show isPt c.1 c.2.1 c.2.2 = isG c from rfl, show bytesP c.1 c.2.1 c.2.2 = bytesG c from rfl] at cc
  have la := bytesG_len a
  have lb := bytesG_len b
  have lc := bytesG_len c
  unfold writeG
  generalize bytesG a = A at *
  generalize bytesG b = B at *
  generalize bytesG c = C at *
  have f1 := by8_len A
  have f2 := by8_len B
  have f3 := by8_len C
  have f4 : (by8 A ++ by8 B).length = A.length + B.length := by rw [List.length_append, f1, f2]
  have a1 : A.length ≤ 140737488355328 := by omega
  have a2 : A.length ≤ 4611686018427387904 := by omega
  have b1 : A.length + B.length ≤ 140737488355328 := by omega
  have b2 : A.length + B.length ≤ 4611686018427387904 := by omega
  have c1 : A.length + B.length + C.length ≤ 140737488355328 := by omega
  have c2 : A.length + B.length + C.length ≤ 4611686018427387904 := by omega
  clear la lb lc
  refine Fn.enter Try.func12 Try.ntmps12 rfl (h := ?_)
  have tf := tf
  have tfb := tfb
  have tfl := tfl
  have tfg := tfg
  have ot_ : (false || true) = true := rfl
  have i03 : decide ((0:Int) < ((3:Nat):Int)) = true := rfl
  have i13 : decide ((1:Int) < ((3:Nat):Int)) = true := rfl
  have i23 : decide ((2:Int) < ((3:Nat):Int)) = true := rfl
  have i33 : decide ((3:Int) < ((3:Nat):Int)) = false := rfl
  have q0 : (0:Int) ≤ 0 := by decide
  have q1 : (0:Int) ≤ 1 := by decide
  have q2 : (0:Int) ≤ 2 := by decide
  have x0 : (0:Int) < ((3:Nat):Int) := by decide
  have x1 : (1:Int) < ((3:Nat):Int) := by decide
  have x2 : (2:Int) < ((3:Nat):Int) := by decide
  have n0 : Int.toNat 0 = 0 := rfl
  have n1 : Int.toNat 1 = 1 := rfl
  have n2 : Int.toNat 2 = 2 := rfl
  have p1 : IntKind.i64.wrap (0 + 1) = 1 := by decide
  have p2 : IntKind.i64.wrap (1 + 1) = 2 := by decide
  have p3 : IntKind.i64.wrap (2 + 1) = 3 := by decide
  have z9 : (9:Nat) ≤ 16777216 := by decide
  repeat refine AW.seq ?_
  refine AW.reg ?_
  iterate 3 refine AOL.s1 (h := ?_)
  refine AOL.nil ?_
  refine AW.kq [1] (h := ?_)
  repeat refine AW.seq ?_
  refine AW.reg ?_
  iterate 1 refine AOL.s1 (h := ?_)
  refine AOL.nil ?_
  refine AW.kq [1, 4] (h := ?_)
  repeat refine AW.seq ?_
  refine AW.reg ?_
  iterate 9 refine AOL.s1 (h := ?_)
  refine AOL.nil ?_
  refine AW.kq [4, 15, 16, 17] (h := ?_)
  refine AW.let 1016 (h := ?_)
  repeat refine AW.seq ?_
  refine AW.block ?_
  repeat refine AW.seq ?_
  refine AW.rounds ?_
  refine AWin.next [4, 15, 16, 17] (h := ?_)
  cases ha_ : isG a with
  | false =>
    rw [ha_] at ca
    simp only [Bool.false_eq_true, if_false] at ca
    simp only [ha_, Bool.false_and, Bool.and_false, Bool.false_eq_true, if_false]
    repeat refine AW.seq ?_
    refine AW.reg ?_
    iterate 1 refine AOL.s1 (h := ?_)
    refine AOL.nil ?_
    refine AW.kq [4, 15, 16, 17, 18] (h := ?_)
    repeat refine AW.seq ?_
    refine AW.cond rfl (fun c_ => ?_) (fun c_ => ?_)
    rotate_left
    · cases c_
    refine AW.skip ?_
    repeat refine AW.seq ?_
    refine AW.block ?_
    repeat refine AW.seq ?_
    refine AW.reg ?_
    iterate 4 refine AOL.s1 (h := ?_)
    refine AOL.nil ?_
    refine AW.kq [4, 6, 15, 16, 17] (h := ?_)
    repeat refine AW.seq ?_
    refine AW.reg ?_
    iterate 1 refine AOL.s1 (h := ?_)
    refine AOL.callD rfl (ca) (by kernel_rfl) rfl rfl (h := ?_)
    iterate 5 refine AOL.s1 (h := ?_)
    refine AOL.nil ?_
    refine AW.kq [4, 7, 8, 15, 16, 17] (h := ?_)
    repeat refine AW.seq ?_
    refine AW.reg ?_
    iterate 2 refine AOL.s1 (h := ?_)
    refine AOL.nil ?_
    refine AW.kq [4, 7, 8, 15, 16, 17, 27] (h := ?_)
    repeat refine AW.seq ?_
    refine AW.cond rfl (fun d_ => ?_) (fun d_ => ?_)
    · repeat refine AW.seq ?_
      refine AW.reg ?_
      iterate 3 refine AOL.s1 (h := ?_)
      refine AOL.nil ?_
      refine AW.kq [2, 3] (h := ?_)
      repeat refine AW.seq ?_
      refine AW.ret ?_
      refine ⟨_, [], rfl, HOk.nil _, ?_⟩
      rfl
    cases d_
  | true =>
  rw [ha_] at ca
  simp only [if_true] at ca
  repeat refine AW.seq ?_
  refine AW.reg ?_
  iterate 1 refine AOL.s1 (h := ?_)
  refine AOL.nil ?_
  refine AW.kq [4, 15, 16, 17, 18] (h := ?_)
  repeat refine AW.seq ?_
  refine AW.cond rfl (fun c_ => ?_) (fun c_ => ?_)
  rotate_left
  · cases c_
  refine AW.skip ?_
  repeat refine AW.seq ?_
  refine AW.block ?_
  repeat refine AW.seq ?_
  refine AW.reg ?_
  iterate 4 refine AOL.s1 (h := ?_)
  refine AOL.nil ?_
  refine AW.kq [4, 6, 15, 16, 17] (h := ?_)
  repeat refine AW.seq ?_
  refine AW.reg ?_
  iterate 1 refine AOL.s1 (h := ?_)
  refine AOL.callD rfl (ca) (by kernel_rfl) rfl rfl (h := ?_)
  iterate 5 refine AOL.s1 (h := ?_)
  refine AOL.nil ?_
  refine AW.kq [4, 7, 8, 15, 16, 17] (h := ?_)
  repeat refine AW.seq ?_
  refine AW.reg ?_
  iterate 2 refine AOL.s1 (h := ?_)
  refine AOL.nil ?_
  refine AW.kq [4, 7, 8, 15, 16, 17, 27] (h := ?_)
  repeat refine AW.seq ?_
  refine AW.cond rfl (fun d_ => ?_) (fun d_ => ?_)
  · cases d_
  clear ca
  refine AW.skip ?_
  repeat refine AW.seq ?_
  refine AW.reg ?_
  iterate 4 refine AOL.s1 (h := ?_)
  refine AOL.nil ?_
  refine AW.let 1096 (h := ?_)
  repeat refine AW.seq ?_
  refine AW.reg ?_
  iterate 2 refine AOL.s1 (h := ?_)
  refine AOL.nil ?_
  refine AWin.next [4, 15, 16, 17] (h := ?_)
  cases hb_ : isG b with
  | false =>
    rw [hb_] at cb
    simp only [Bool.false_eq_true, if_false] at cb
    simp only [hb_, Bool.false_and, Bool.and_false, Bool.false_eq_true, if_false]
    repeat refine AW.seq ?_
    refine AW.reg ?_
    iterate 1 refine AOL.s1 (h := ?_)
    refine AOL.nil ?_
    refine AW.kq [4, 15, 16, 17, 18] (h := ?_)
    repeat refine AW.seq ?_
    refine AW.cond rfl (fun c_ => ?_) (fun c_ => ?_)
    rotate_left
    · cases c_
    refine AW.skip ?_
    repeat refine AW.seq ?_
    refine AW.block ?_
    repeat refine AW.seq ?_
    refine AW.reg ?_
    iterate 4 refine AOL.s1 (h := ?_)
    refine AOL.nil ?_
    refine AW.kq [4, 6, 15, 16, 17] (h := ?_)
    repeat refine AW.seq ?_
    refine AW.reg ?_
    iterate 1 refine AOL.s1 (h := ?_)
    refine AOL.callD rfl (cb) (by kernel_rfl) rfl rfl (h := ?_)
    iterate 5 refine AOL.s1 (h := ?_)
    refine AOL.nil ?_
    refine AW.kq [4, 7, 8, 15, 16, 17] (h := ?_)
    repeat refine AW.seq ?_
    refine AW.reg ?_
    iterate 2 refine AOL.s1 (h := ?_)
    refine AOL.nil ?_
    refine AW.kq [4, 7, 8, 15, 16, 17, 27] (h := ?_)
    repeat refine AW.seq ?_
    refine AW.cond rfl (fun d_ => ?_) (fun d_ => ?_)
    · repeat refine AW.seq ?_
      refine AW.reg ?_
      iterate 3 refine AOL.s1 (h := ?_)
      refine AOL.nil ?_
      refine AW.kq [2, 3] (h := ?_)
      repeat refine AW.seq ?_
      refine AW.ret ?_
      refine ⟨_, [], rfl, HOk.nil _, ?_⟩
      rfl
    cases d_
  | true =>
  rw [hb_] at cb
  simp only [if_true] at cb
  repeat refine AW.seq ?_
  refine AW.reg ?_
  iterate 1 refine AOL.s1 (h := ?_)
  refine AOL.nil ?_
  refine AW.kq [4, 15, 16, 17, 18] (h := ?_)
  repeat refine AW.seq ?_
  refine AW.cond rfl (fun c_ => ?_) (fun c_ => ?_)
  rotate_left
  · cases c_
  refine AW.skip ?_
  repeat refine AW.seq ?_
  refine AW.block ?_
  repeat refine AW.seq ?_
  refine AW.reg ?_
  iterate 4 refine AOL.s1 (h := ?_)
  refine AOL.nil ?_
  refine AW.kq [4, 6, 15, 16, 17] (h := ?_)
  repeat refine AW.seq ?_
  refine AW.reg ?_
  iterate 1 refine AOL.s1 (h := ?_)
  refine AOL.callD rfl (cb) (by kernel_rfl) rfl rfl (h := ?_)
  iterate 5 refine AOL.s1 (h := ?_)
  refine AOL.nil ?_
  refine AW.kq [4, 7, 8, 15, 16, 17] (h := ?_)
  repeat refine AW.seq ?_
  refine AW.reg ?_
  iterate 2 refine AOL.s1 (h := ?_)
  refine AOL.nil ?_
  refine AW.kq [4, 7, 8, 15, 16, 17, 27] (h := ?_)
  repeat refine AW.seq ?_
  refine AW.cond rfl (fun d_ => ?_) (fun d_ => ?_)
  · cases d_
  clear cb
  refine AW.skip ?_
  repeat refine AW.seq ?_
  refine AW.reg ?_
  iterate 4 refine AOL.s1 (h := ?_)
  refine AOL.nil ?_
  refine AW.let 1096 (h := ?_)
  repeat refine AW.seq ?_
  refine AW.reg ?_
  iterate 2 refine AOL.s1 (h := ?_)
  refine AOL.nil ?_
  refine AWin.next [4, 15, 16, 17] (h := ?_)
  cases hc_ : isG c with
  | false =>
    rw [hc_] at cc
    simp only [Bool.false_eq_true, if_false] at cc
    simp only [hc_, Bool.false_and, Bool.and_false, Bool.false_eq_true, if_false]
    repeat refine AW.seq ?_
    refine AW.reg ?_
    iterate 1 refine AOL.s1 (h := ?_)
    refine AOL.nil ?_
    refine AW.kq [4, 15, 16, 17, 18] (h := ?_)
    repeat refine AW.seq ?_
    refine AW.cond rfl (fun c_ => ?_) (fun c_ => ?_)
    rotate_left
    · cases c_
    refine AW.skip ?_
    repeat refine AW.seq ?_
    refine AW.block ?_
    repeat refine AW.seq ?_
    refine AW.reg ?_
    iterate 4 refine AOL.s1 (h := ?_)
    refine AOL.nil ?_
    refine AW.kq [4, 6, 15, 16, 17] (h := ?_)
    repeat refine AW.seq ?_
    refine AW.reg ?_
    iterate 1 refine AOL.s1 (h := ?_)
    refine AOL.callD rfl (cc) (by kernel_rfl) rfl rfl (h := ?_)
    iterate 5 refine AOL.s1 (h := ?_)
    refine AOL.nil ?_
    refine AW.kq [4, 7, 8, 15, 16, 17] (h := ?_)
    repeat refine AW.seq ?_
    refine AW.reg ?_
    iterate 2 refine AOL.s1 (h := ?_)
    refine AOL.nil ?_
    refine AW.kq [4, 7, 8, 15, 16, 17, 27] (h := ?_)
    repeat refine AW.seq ?_
    refine AW.cond rfl (fun d_ => ?_) (fun d_ => ?_)
    · repeat refine AW.seq ?_
      refine AW.reg ?_
      iterate 3 refine AOL.s1 (h := ?_)
      refine AOL.nil ?_
      refine AW.kq [2, 3] (h := ?_)
      repeat refine AW.seq ?_
      refine AW.ret ?_
      refine ⟨_, [], rfl, HOk.nil _, ?_⟩
      rfl
    cases d_
  | true =>
  rw [hc_] at cc
  simp only [if_true] at cc
  repeat refine AW.seq ?_
  refine AW.reg ?_
  iterate 1 refine AOL.s1 (h := ?_)
  refine AOL.nil ?_
  refine AW.kq [4, 15, 16, 17, 18] (h := ?_)
  repeat refine AW.seq ?_
  refine AW.cond rfl (fun c_ => ?_) (fun c_ => ?_)
  rotate_left
  · cases c_
  refine AW.skip ?_
  repeat refine AW.seq ?_
  refine AW.block ?_
  repeat refine AW.seq ?_
  refine AW.reg ?_
  iterate 4 refine AOL.s1 (h := ?_)
  refine AOL.nil ?_
  refine AW.kq [4, 6, 15, 16, 17] (h := ?_)
  repeat refine AW.seq ?_
  refine AW.reg ?_
  iterate 1 refine AOL.s1 (h := ?_)
  refine AOL.callD rfl (cc) (by kernel_rfl) rfl rfl (h := ?_)
  iterate 5 refine AOL.s1 (h := ?_)
  refine AOL.nil ?_
  refine AW.kq [4, 7, 8, 15, 16, 17] (h := ?_)
  repeat refine AW.seq ?_
  refine AW.reg ?_
  iterate 2 refine AOL.s1 (h := ?_)
  refine AOL.nil ?_
  refine AW.kq [4, 7, 8, 15, 16, 17, 27] (h := ?_)
  repeat refine AW.seq ?_
  refine AW.cond rfl (fun d_ => ?_) (fun d_ => ?_)
  · cases d_
  clear cc
  refine AW.skip ?_
  repeat refine AW.seq ?_
  refine AW.reg ?_
  iterate 4 refine AOL.s1 (h := ?_)
  refine AOL.nil ?_
  refine AW.let 1096 (h := ?_)
  repeat refine AW.seq ?_
  refine AW.reg ?_
  iterate 2 refine AOL.s1 (h := ?_)
  refine AOL.nil ?_
  refine AWin.next [4, 15, 16, 17] (h := ?_)
  simp only [Bool.and_self, if_true]
  repeat refine AW.seq ?_
  refine AW.reg ?_
  iterate 1 refine AOL.s1 (h := ?_)
  refine AOL.nil ?_
  refine AW.kq [4, 15, 16, 17, 18] (h := ?_)
  repeat refine AW.seq ?_
  refine AW.cond rfl (fun c_ => ?_) (fun c_ => ?_)
  · cases c_
  repeat refine AW.seq ?_
  refine AW.exit ?_
  repeat (first | refine Kseq.ex ?_ | refine Kloop.ex ?_ | refine Kblock.miss (by decide) ?_)
  refine Kblock.hit ?_
  refine AW.kq [4] (h := ?_)
  refine AW.fz 1496 rfl (fun h => by cases h) (h := ?_)
  repeat refine AW.seq ?_
  refine AW.reg ?_
  iterate 3 refine AOL.s1 (h := ?_)
  refine AOL.nil ?_
  refine AW.kq [2, 3] (h := ?_)
  repeat refine AW.seq ?_
  refine AW.ret ?_
  refine ⟨_, [], rfl, HOk.nil _, ?_⟩
  show AV.tup [.sl (A.length + B.length + C.length) (sub 0 (A.length + B.length + C.length) (by8 A ++ by8 B ++ by8 C)), nil_] = _
  rw [sub_all (Nat.le_of_eq (by rw [List.length_append, f4, f3])), by8_app, by8_app]
  show _ = AV.tup [.sl (A ++ B ++ C).length (by8 (A ++ B ++ C)), nil_]
  rw [List.length_append, List.length_append]

end Go.Proofs.Ytdbpjegocmdplaa.E.M
end
section
/- What is in a list: contracts over E. -/
set_option linter.unusedVariables false
set_option linter.unusedSimpArgs false
set_option maxRecDepth 10000
open Go Go.Proofs.Ytdbpjegocmdplaa.E Go.Proofs
namespace Go.Proofs.Ytdbpjegocmdplaa.E.M
def idxG (p : P3 → Bool) : List P3 → Nat → Int
  | [], _ => -1
  | v :: l, k => if p v then k else idxG p l (k + 1)
theorem idxG_any (p : P3 → Bool) : ∀ (V : List P3) (k : Nat), decide (idxG p V k ≥ 0) = V.any p
  | [], k => by simp [idxG]
  | v :: l, k => by
    simp only [idxG, List.any_cons]
    split
    · rename_i h; rw [h]; simp
    · rename_i h; rw [idxG_any p l (k + 1)]; simp [h]
set_option maxHeartbeats 4000000 in
theorem slices_IndexFunc_api_Pt_api_Pt_c {V : List P3} {g : FuncId} {p : P3 → Bool} (lV : V.length < 1000000000) (hV : ∀ v ∈ V, wP3 v) (hcl : callable Try.prog g = true) (hg : ∀ v, wP3 v → Fn Try.prog g [pt v] [] (fun r _ => r = bo (p v))) : Fn Try.prog 71 [pl V, .clo g []] [] (fun r h_ => r = i (idxG p V 0)) := by
  refine Fn.enter Try.func71 Try.ntmps71 rfl (h := ?_)
  have tf := tf
  have ot_ : (false || true) = true := rfl
  have tfl := tfl
  repeat refine AW.seq ?_
  refine AW.reg ?_
  iterate 1 refine AOL.s1 (h := ?_)
  refine AOL.nil ?_
  refine AW.kq [0, 1] (h := ?_)
  repeat refine AW.seq ?_
  refine AW.reg ?_
  iterate 3 refine AOL.s1 (h := ?_)
  refine AOL.nil ?_
  refine AW.kq [0, 1, 7, 8] (h := ?_)
  repeat refine AW.seq ?_
  refine AW.block ?_
  repeat refine AW.seq ?_
  refine AW.loopK [0, 1, 7, 8] (fun n s => ∃ (k : Nat), s = ⟨19, [(0, pl V), (1, .clo g []), (7, i V.length), (8, i k)], []⟩ ∧ k ≤ V.length ∧ n = V.length - k ∧ idxG p (V.drop k) k = idxG p V 0) (V.length) ?_ ?_
  · exact ⟨0, rfl, Nat.zero_le _, rfl, rfl⟩
  rintro n s ⟨k, rfl, hkl, rfl, hi⟩
  repeat refine AW.seq ?_
  refine AW.reg ?_
  iterate 1 refine AOL.s1 (h := ?_)
  refine AOL.nil ?_
  refine AW.kq [0, 1, 7, 8, 9] (h := ?_)
  repeat refine AW.seq ?_
  refine AW.cond rfl (fun d_ => ?_) (fun d_ => ?_)
  · have h1 : k < V.length := by have : (k:Int) < V.length := by simpa using d_
                                 omega
    have hg' : V[k]? = some V[k] := List.getElem?_eq_getElem h1
    have hgw := hV _ (List.getElem_mem h1)
    have hgd := pl_at hg'
    have k0 : (0:Int) ≤ k := by omega
    have k1 : (k:Int) < V.length := by omega
    have hw := incq h1 lV
    have cg := hg _ hgw
    have hi : (if p V[k] then (k:Int) else idxG p (V.drop (k + 1)) (k + 1)) = idxG p V 0 := by
      rw [← hi, List.drop_eq_getElem_cons h1]
      simp only [idxG]
    clear hg' d_
    generalize V[k] = a at *
    obtain ⟨a0, a1, a2⟩ := a
    refine AW.skip ?_
    repeat refine AW.seq ?_
    refine AW.block ?_
    repeat refine AW.seq ?_
    refine AW.reg ?_
    iterate 2 refine AOL.s1 (h := ?_)
    refine AOL.nil ?_
    refine AW.kq [0, 1, 5, 7, 8] (h := ?_)
    repeat refine AW.seq ?_
    refine AW.reg ?_
    iterate 5 refine AOL.s1 (h := ?_)
    refine AOL.callD rfl cg hcl rfl rfl (h := ?_)
    refine AOL.nil ?_
    refine AW.kq [0, 1, 5, 7, 8, 16] (h := ?_)
    repeat refine AW.seq ?_
    refine AW.cond rfl (fun e_ => ?_) (fun e_ => ?_)
    · have hf : idxG p V 0 = k := by rw [← hi, if_pos e_]
      repeat refine AW.seq ?_
      refine AW.reg ?_
      iterate 2 refine AOL.s1 (h := ?_)
      refine AOL.nil ?_
      refine AW.kq [4] (h := ?_)
      repeat refine AW.seq ?_
      refine AW.ret ?_
      refine ⟨_, [], rfl, HOk.nil _, ?_⟩
      simp only [one?, hf]
    have hf : idxG p (V.drop (k + 1)) (k + 1) = idxG p V 0 := by rw [← hi, if_neg (by rw [e_]; decide)]
    refine AW.skip ?_
    repeat refine AW.seq ?_
    refine AW.reg ?_
    iterate 2 refine AOL.s1 (h := ?_)
    refine AOL.nil ?_
    exact ⟨V.length - (k + 1), by omega, _, rfl, h1, rfl, hf⟩
  · have hf : idxG p V 0 = -1 := by
      have : k = V.length := by have : ¬ (k:Int) < V.length := by simpa using d_
                                omega
      subst this
      rw [List.drop_length] at hi
      exact hi.symm
    repeat refine AW.seq ?_
    refine AW.exit ?_
    repeat (first | refine Kseq.ex ?_ | refine Kloop.ex ?_ | refine Kblock.miss (by decide) ?_)
    refine Kblock.hit ?_
    refine AW.kq [] (h := ?_)
    repeat refine AW.seq ?_
    refine AW.reg ?_
    iterate 1 refine AOL.s1 (h := ?_)
    refine AOL.nil ?_
    refine AW.kq [4] (h := ?_)
    repeat refine AW.seq ?_
    refine AW.ret ?_
    refine ⟨_, [], rfl, HOk.nil _, ?_⟩
    simp only [one?, hf]
set_option maxHeartbeats 1000000 in
theorem slices_ContainsFunc_api_Pt_api_Pt_c {V : List P3} {g : FuncId} {p : P3 → Bool} (lV : V.length < 1000000000) (hV : ∀ v ∈ V, wP3 v) (hcl : callable Try.prog g = true) (hg : ∀ v, wP3 v → Fn Try.prog g [pt v] [] (fun r _ => r = bo (p v))) : Fn Try.prog 36 [pl V, .clo g []] [] (fun r h_ => r = bo (V.any p)) := by
  refine Fn.enter Try.func36 Try.ntmps36 rfl (h := ?_)
  have tf := tf
  have ot_ : (false || true) = true := rfl
  repeat refine AW.seq ?_
  refine AW.reg ?_
  iterate 1 refine AOL.s1 (h := ?_)
  refine AOL.nil ?_
  refine AW.kq [0, 1] (h := ?_)
  repeat refine AW.seq ?_
  refine AW.reg ?_
  iterate 2 refine AOL.s1 (h := ?_)
  refine AOL.callD rfl (slices_IndexFunc_api_Pt_api_Pt_c lV hV hcl hg) (by kernel_rfl) rfl rfl (h := ?_)
  iterate 2 refine AOL.s1 (h := ?_)
  refine AOL.nil ?_
  refine AW.kq [4] (h := ?_)
  repeat refine AW.seq ?_
  refine AW.ret ?_
  refine ⟨_, [], rfl, HOk.nil _, ?_⟩
  simp only [one?, idxG_any]
set_option maxHeartbeats 4000000 in
theorem slices_Index_uint64_uint64_c {V : List Int} {x : Int} (lV : V.length < 1000000000) (hV : wV V) (hx : w64 x) : Fn Try.prog 53 [ul V, u x] [] (fun r h_ => r = i (idxF (fun v => x == v) V 0)) := by
  refine Fn.enter Try.func53 Try.ntmps53 rfl (h := ?_)
  have tf := tf
  have ot_ : (false || true) = true := rfl
  have tfr := tfr
  have tfl := tfl
  repeat refine AW.seq ?_
  refine AW.reg ?_
  iterate 1 refine AOL.s1 (h := ?_)
  refine AOL.nil ?_
  refine AW.kq [0, 1] (h := ?_)
  repeat refine AW.seq ?_
  refine AW.reg ?_
  iterate 3 refine AOL.s1 (h := ?_)
  refine AOL.nil ?_
  refine AW.kq [0, 1, 7, 8] (h := ?_)
  repeat refine AW.seq ?_
  refine AW.block ?_
  repeat refine AW.seq ?_
  refine AW.loopK [0, 1, 7, 8] (fun n s => ∃ (k : Nat), s = ⟨19, [(0, ul V), (1, u x), (7, i V.length), (8, i k)], []⟩ ∧ k ≤ V.length ∧ n = V.length - k ∧ idxF (fun v => x == v) (V.drop k) k = idxF (fun v => x == v) V 0) (V.length) ?_ ?_
  · exact ⟨0, rfl, Nat.zero_le _, rfl, rfl⟩
  rintro n s ⟨k, rfl, hkl, rfl, hi⟩
  repeat refine AW.seq ?_
  refine AW.reg ?_
  iterate 1 refine AOL.s1 (h := ?_)
  refine AOL.nil ?_
  refine AW.kq [0, 1, 7, 8, 9] (h := ?_)
  repeat refine AW.seq ?_
  refine AW.cond rfl (fun d_ => ?_) (fun d_ => ?_)
  · have h1 : k < V.length := by have : (k:Int) < V.length := by simpa using d_
                                 omega
    obtain ⟨a, ha, haw, had⟩ := at_nat (n := k) (by omega) hV
    have k0 : (0:Int) ≤ k := by omega
    have k1 : (k:Int) < V.length := by omega
    have hw := incq h1 lV
    have hi : (if x == a then (k:Int) else idxF (fun v => x == v) (V.drop (k + 1)) (k + 1)) = idxF (fun v => x == v) V 0 := by
      rw [← hi, List.drop_eq_getElem_cons h1]
      rw [List.getElem?_eq_getElem h1] at ha
      simp only [idxF, Option.some.inj ha]
    clear ha d_
    refine AW.skip ?_
    repeat refine AW.seq ?_
    refine AW.block ?_
    repeat refine AW.seq ?_
    refine AW.reg ?_
    iterate 2 refine AOL.s1 (h := ?_)
    refine AOL.nil ?_
    refine AW.kq [0, 1, 5, 7, 8] (h := ?_)
    repeat refine AW.seq ?_
    refine AW.reg ?_
    iterate 6 refine AOL.s1 (h := ?_)
    refine AOL.nil ?_
    refine AW.kq [0, 1, 5, 7, 8, 16] (h := ?_)
    repeat refine AW.seq ?_
    refine AW.cond rfl (fun e_ => ?_) (fun e_ => ?_)
    · have e_ : (x == a) = true := by simpa using e_
      have hf : idxF (fun v => x == v) V 0 = k := by rw [← hi, if_pos e_]
      repeat refine AW.seq ?_
      refine AW.reg ?_
      iterate 2 refine AOL.s1 (h := ?_)
      refine AOL.nil ?_
      refine AW.kq [4] (h := ?_)
      repeat refine AW.seq ?_
      refine AW.ret ?_
      refine ⟨_, [], rfl, HOk.nil _, ?_⟩
      simp only [one?, hf]
    have e_ : (x == a) = false := by simpa using e_
    have hf : idxF (fun v => x == v) (V.drop (k + 1)) (k + 1) = idxF (fun v => x == v) V 0 := by rw [← hi, if_neg (by rw [e_]; decide)]
    refine AW.skip ?_
    repeat refine AW.seq ?_
    refine AW.reg ?_
    iterate 2 refine AOL.s1 (h := ?_)
    refine AOL.nil ?_
    exact ⟨V.length - (k + 1), by omega, _, rfl, h1, rfl, hf⟩
  · have hf : idxF (fun v => x == v) V 0 = -1 := by
      have : k = V.length := by have : ¬ (k:Int) < V.length := by simpa using d_
                                omega
      subst this
      rw [List.drop_length] at hi
      exact hi.symm
    repeat refine AW.seq ?_
    refine AW.exit ?_
    repeat (first | refine Kseq.ex ?_ | refine Kloop.ex ?_ | refine Kblock.miss (by decide) ?_)
    refine Kblock.hit ?_
    refine AW.kq [] (h := ?_)
    repeat refine AW.seq ?_
    refine AW.reg ?_
    iterate 1 refine AOL.s1 (h := ?_)
    refine AOL.nil ?_
    refine AW.kq [4] (h := ?_)
    repeat refine AW.seq ?_
    refine AW.ret ?_
    refine ⟨_, [], rfl, HOk.nil _, ?_⟩
    simp only [one?, hf]
set_option maxHeartbeats 1000000 in
theorem slices_Contains_uint64_uint64_c {V : List Int} {x : Int} (lV : V.length < 1000000000) (hV : wV V) (hx : w64 x) : Fn Try.prog 25 [ul V, u x] [] (fun r h_ => r = bo (V.any (fun v => x == v))) := by
  refine Fn.enter Try.func25 Try.ntmps25 rfl (h := ?_)
  have tf := tf
  have ot_ : (false || true) = true := rfl
  repeat refine AW.seq ?_
  refine AW.reg ?_
  iterate 1 refine AOL.s1 (h := ?_)
  refine AOL.nil ?_
  refine AW.kq [0, 1] (h := ?_)
  repeat refine AW.seq ?_
  refine AW.reg ?_
  iterate 2 refine AOL.s1 (h := ?_)
  refine AOL.callD rfl (slices_Index_uint64_uint64_c lV hV hx) (by kernel_rfl) rfl rfl (h := ?_)
  iterate 2 refine AOL.s1 (h := ?_)
  refine AOL.nil ?_
  refine AW.kq [4] (h := ?_)
  repeat refine AW.seq ?_
  refine AW.ret ?_
  refine ⟨_, [], rfl, HOk.nil _, ?_⟩
  simp only [one?, idxF_any]
end Go.Proofs.Ytdbpjegocmdplaa.E.M
end
section
/- Whether a proof holds: a contract over E. -/
set_option linter.unusedVariables false
set_option linter.unusedSimpArgs false
set_option maxRecDepth 10000
open Go Go.Proofs.Ytdbpjegocmdplaa.E Go.Proofs
namespace Go.Proofs.Ytdbpjegocmdplaa.E.M
abbrev vkc (A B C D : P3) (I : List P3) : List AV := [bo A.1, u A.2.1, u A.2.2, bo B.1, u B.2.1, u B.2.2, bo C.1, u C.2.1, u C.2.2, bo D.1, u D.2.1, u D.2.2, pl I]
def inG (a : P3) : Bool := inP a.1 a.2.1 a.2.2
def negG (a : P3) : P3 := negP (sureP a.1 a.2.1 a.2.2)
theorem negG_pt (a : P3) : Pt (negG a) := negP_pt (sureP_pt _ _ _)
def eqF (A B C D i : P3) (a b c : P3) : AV := match prodV [a, negG A, negG i, negG c] [b, B, C, D] with
  | (_, false) => er 9
  | (e, true) => if e = (1, 0) then nil_ else er 9
def verF (A B C D : P3) (I : List P3) (V : List Int) (a b c : P3) : AV :=
  if (V.length : Int) ≠ (I.length : Int) - 1 ∨ V.any (fun v => decide (v ≥ 288230376287764481)) = true then er 1 else
  if (A :: B :: C :: D :: I).any (fun g => !inG g) = true then er 1 else
  if (!inG a || !inG b || !inG c) = true then er 3 else
  eqF A B C D (togF (I.headD (true, 0, 0)) I.tail V) a b c
theorem pl_tail (g : P3) (I : List P3) : ∀ H, aSlice Try.prog 33 H (.sl (I.length + 1) (fm ptc (g :: I))) (some (i 1)) none none = some (pl I) := by
  intro H
  have tfl := tfl
  have tf := tf
  have fl : (fm ptc I).length = I.length * 3 := fm_len ptc_len I
  have h0 : ((0:Int) ≤ 1) = True := by simp
  have h1 : ((1:Int) ≤ ((I.length + 1 : Nat) : Int)) = True := by simp; omega
  have e : (fm ptc (g :: I)).drop 3 = fm ptc I := rfl
  have n1 : Int.toNat 1 = 1 := rfl
  simp only [aSlice, tf, tfl, bnd, intOf?, h0, h1, and_self, Int.le_refl, if_true, Int.toNat_natCast, n1, Nat.one_mul, e, Nat.add_sub_cancel]
  rw [List.take_of_length_le (Nat.le_of_eq fl)]
set_option maxHeartbeats 16000000 in
theorem groth_Verify_c {A B C D : P3} {I : List P3} {V : List Int} {a b c : P3} (hA : wP3 A) (hB : wP3 B) (hC : wP3 C) (hD : wP3 D) (hI : ∀ g ∈ I, wP3 g) (lI : I.length < 1000000) (hV : wV V) (lV : V.length < 1000000000) (ha : wP3 a) (hb : wP3 b) (hc : wP3 c) : Fn Try.prog 11 [.agg (vkc A B C D I), ul V, pf a b c] [] (fun r h_ => r = verF A B C D I V a b c) := by
  refine Fn.enter Try.func11 Try.ntmps11 rfl (h := ?_)
  have tf := tf
  have ot_ : (false || true) = true := rfl
  have tfg := tfg
  have tfl := tfl
  have tfr := tfr
  have hl : IntKind.i64.wrap ((I.length : Int) - 1) = (I.length : Int) - 1 := wrapI_o (by omega) (by omega)
  have hG : Fn Try.prog 22 [ul V, .clo 35 []] [] (fun r _ => r = bo (V.any (fun v => decide (v ≥ 288230376287764481)))) := slices_ContainsFunc_uint64_uint64_c lV hV (by kernel_rfl) (fun v _ => groth_Verify_1_c)
  have hL : ∀ g ∈ A :: B :: C :: D :: I, wP3 g := by
    intro g hg
    simp only [List.mem_cons] at hg
    rcases hg with rfl | rfl | rfl | rfl | hg
    · exact hA
    · exact hB
    · exact hC
    · exact hD
    · exact hI g hg
  have hP : Fn Try.prog 36 [pl (A :: B :: C :: D :: I), .clo 37 []] [] (fun r _ => r = bo ((A :: B :: C :: D :: I).any (fun g => !inG g))) := slices_ContainsFunc_api_Pt_api_Pt_c (by simp only [List.length_cons]; omega) hL (by kernel_rfl) (fun v hv => groth_Verify_2_c hv)
  have hg : V.any (fun v => decide (v ≥ 288230376287764481)) = V.any (fun v => decide (v ≥ 288230376287764481)) := rfl
  unfold verF
  generalize V.any (fun v => decide (v ≥ 288230376287764481)) = x1 at *
  generalize (A :: B :: C :: D :: I).any (fun g => !inG g) = x2 at *
  have ia := curve_In_c (b := a.1) ha.1 ha.2
  have ib := curve_In_c (b := b.1) hb.1 hb.2
  have ic := curve_In_c (b := c.1) hc.1 hc.2
  rw [show inP a.1 a.2.1 a.2.2 = inG a from rfl] at ia
  rw [show inP b.1 b.2.1 b.2.2 = inG b from rfl] at ib
  rw [show inP c.1 c.2.1 c.2.2 = inG c from rfl] at ic
  have fl : (fm ptc I).length = I.length * 3 := fm_len ptc_len I
  have a1 : (4 + I.length) * 24 ≤ 140737488355328 := by omega
  have a2 : 4 + I.length ≤ 4611686018427387904 := by omega
  have hP' : Fn Try.prog 36 [.sl (4 + I.length) (sub 0 ((4 + I.length) * 3) (bo A.1 :: u A.2.1 :: u A.2.2 :: bo B.1 :: u B.2.1 :: u B.2.2 :: bo C.1 :: u C.2.1 :: u C.2.2 :: bo D.1 :: u D.2.1 :: u D.2.2 :: fm ptc I)), .clo 37 []] [] (fun r _ => r = bo x2) := by
    rw [sub_all (by simp only [List.length_cons, fl]; omega), Nat.add_comm]
    exact hP
  clear hL hg hP
  repeat refine AW.seq ?_
  refine AW.reg ?_
  iterate 3 refine AOL.s1 (h := ?_)
  refine AOL.nil ?_
  refine AW.kq [1, 3, 5] (h := ?_)
  repeat refine AW.seq ?_
  refine AW.reg ?_
  iterate 8 refine AOL.s1 (h := ?_)
  refine AOL.kq [1, 3, 5, 17] (h := ?_)
  refine AOL.or 17 20 (os' := ?_) (x := ?_) (h1 := ?_) (h0 := ?_) (h := ?_)
  rotate_left 2
  iterate 2
    · intro hb_ K' hK; (first | (iterate 3 refine AOL.s1 (h := ?_)) | ((iterate 1 refine AOL.s1 (h := ?_)); refine AOL.callD rfl (hG) (by kernel_rfl) rfl rfl (h := ?_); (iterate 1 refine AOL.s1 (h := ?_)))); refine AOL.kq [1, 3, 5, 20] (h := ?_); exact hK
  refine AOL.nil ?_
  refine AW.kq [1, 3, 5, 20] (h := ?_)
  repeat refine AW.seq ?_
  refine AW.cond rfl (fun c_ => ?_) (fun c_ => ?_)
  · have hf : ((V.length : Int) ≠ (I.length : Int) - 1 ∨ x1 = true) := by simpa using c_
    rw [if_pos hf]
    repeat refine AW.seq ?_
    refine AW.reg ?_
    iterate 2 refine AOL.s1 (h := ?_)
    refine AOL.nil ?_
    refine AW.kq [6] (h := ?_)
    repeat refine AW.seq ?_
    refine AW.ret ?_
    refine ⟨_, [], rfl, HOk.nil _, ?_⟩
    rfl
  have hf : ¬ ((V.length : Int) ≠ (I.length : Int) - 1 ∨ x1 = true) := by simpa using c_
  rw [if_neg hf]
  have hn : (V.length : Int) = (I.length : Int) - 1 := Classical.not_not.1 (fun h => hf (.inl h))
  clear hf c_ hl
  refine AW.skip ?_
  repeat refine AW.seq ?_
  refine AW.reg ?_
  iterate 12 refine AOL.s1 (h := ?_)
  refine AOL.fz 1480 rfl (fun h => by cases h) (h := ?_)
  refine AOL.callD rfl (hP') (by kernel_rfl) rfl rfl (h := ?_)
  refine AOL.nil ?_
  refine AW.kq [1, 3, 5, 34] (h := ?_)
  repeat refine AW.seq ?_
  refine AW.cond rfl (fun d_ => ?_) (fun d_ => ?_)
  · rw [if_pos d_]
    repeat refine AW.seq ?_
    refine AW.reg ?_
    iterate 2 refine AOL.s1 (h := ?_)
    refine AOL.nil ?_
    refine AW.kq [6] (h := ?_)
    repeat refine AW.seq ?_
    refine AW.ret ?_
    refine ⟨_, [], rfl, HOk.nil _, ?_⟩
    rfl
  rw [if_neg (by rw [d_]; decide)]
  clear d_
  refine AW.skip ?_
  repeat refine AW.seq ?_
  refine AW.reg ?_
  iterate 2 refine AOL.s1 (h := ?_)
  refine AOL.callD rfl (ia) (by kernel_rfl) rfl rfl (h := ?_)
  iterate 2 refine AOL.s1 (h := ?_)
  refine AOL.kq [1, 3, 5, 40] (h := ?_)
  refine AOL.or 40 45 (os' := ?_) (x := ?_) (h1 := ?_) (h0 := ?_) (h := ?_)
  rotate_left 2
  iterate 2
    · intro hb_ K' hK; (first | (iterate 5 refine AOL.s1 (h := ?_)) | ((iterate 2 refine AOL.s1 (h := ?_)); refine AOL.callD rfl (ib) (by kernel_rfl) rfl rfl (h := ?_); (iterate 2 refine AOL.s1 (h := ?_)))); refine AOL.kq [1, 3, 5, 45] (h := ?_); exact hK
  iterate 1 refine AOL.s1 (h := ?_)
  refine AOL.kq [1, 3, 5, 46] (h := ?_)
  refine AOL.or 46 51 (os' := ?_) (x := ?_) (h1 := ?_) (h0 := ?_) (h := ?_)
  rotate_left 2
  iterate 2
    · intro hb_ K' hK; (first | (iterate 5 refine AOL.s1 (h := ?_)) | ((iterate 2 refine AOL.s1 (h := ?_)); refine AOL.callD rfl (ic) (by kernel_rfl) rfl rfl (h := ?_); (iterate 2 refine AOL.s1 (h := ?_)))); refine AOL.kq [1, 3, 5, 51] (h := ?_); exact hK
  refine AOL.nil ?_
  refine AW.kq [1, 3, 5, 51] (h := ?_)
  repeat refine AW.seq ?_
  refine AW.cond rfl (fun e_ => ?_) (fun e_ => ?_)
  · rw [if_pos (by simpa using e_)]
    repeat refine AW.seq ?_
    refine AW.reg ?_
    iterate 2 refine AOL.s1 (h := ?_)
    refine AOL.nil ?_
    refine AW.kq [6] (h := ?_)
    repeat refine AW.seq ?_
    refine AW.ret ?_
    refine ⟨_, [], rfl, HOk.nil _, ?_⟩
    rfl
  rw [if_neg (by simpa using e_)]
  clear ia ib ic e_ hG hP'
  cases I with
  | nil => exfalso; simp only [List.length_nil] at hn; omega
  | cons g I =>
  have hg := hI g List.mem_cons_self
  have hI' : ∀ h ∈ I, wP3 h := fun h hh => hI h (List.mem_cons_of_mem _ hh)
  have hV' : V.length = I.length := by simp only [List.length_cons] at hn; omega
  have ct := groth_together_c (a := g) (L := I) hg hI' hV (by omega) lV
  clear hV' hn
  have wi := togF_w I V hg
  have l0 : (0:Int) < ((I.length + 1 : Nat) : Int) := by omega
  have l00 : (0:Int) ≤ 0 := Int.le_refl _
  have pt_ := pl_tail g I
  simp only [List.headD_cons, List.tail_cons]
  generalize togF g I V = i0 at *
  have nA := curve_Neg_c (b := A.1) hA.1 hA.2
  have nI := curve_Neg_c (b := i0.1) wi.1 wi.2
  have nC := curve_Neg_c (b := c.1) hc.1 hc.2
  rw [show negP (sureP A.1 A.2.1 A.2.2) = negG A from rfl] at nA
  rw [show negP (sureP i0.1 i0.2.1 i0.2.2) = negG i0 from rfl] at nI
  rw [show negP (sureP c.1 c.2.1 c.2.2) = negG c from rfl] at nC
  have w1 := (negG_pt A).w3
  have w2 := (negG_pt i0).w3
  have w3 := (negG_pt c).w3
  unfold eqF
  generalize negG A = A' at *
  generalize negG i0 = i' at *
  generalize negG c = c' at *
  have cP : Fn Try.prog 39 [.sl 4 [bo a.1, u a.2.1, u a.2.2, bo A'.1, u A'.2.1, u A'.2.2, bo i'.1, u i'.2.1, u i'.2.2, bo c'.1, u c'.2.1, u c'.2.2], .sl 4 [bo b.1, u b.2.1, u b.2.2, bo B.1, u B.2.1, u B.2.2, bo C.1, u C.2.1, u C.2.2, bo D.1, u D.2.1, u D.2.2]] [] (fun r _ => r = .tup [ee (prodV [a, A', i', c'] [b, B, C, D]).1, er_ (prodV [a, A', i', c'] [b, B, C, D]).2 1]) :=
    pair_Product_c (a := [a, A', i', c']) (q := [b, B, C, D]) (by intro g hg; simp only [List.mem_cons, List.not_mem_nil, or_false] at hg; rcases hg with rfl | rfl | rfl | rfl <;> assumption) (by intro g hg; simp only [List.mem_cons, List.not_mem_nil, or_false] at hg; rcases hg with rfl | rfl | rfl | rfl <;> assumption) (by simp only [List.length_cons, List.length_nil]; decide) (by simp only [List.length_cons, List.length_nil]; decide)
  generalize prodV [a, A', i', c'] [b, B, C, D] = p at *
  obtain ⟨⟨e1, e2⟩, o⟩ := p
  have q1 : (4:Nat) * 3 ≤ 16777216 := by decide
  have q2 : (4:Nat) ≤ 16777216 := by decide
  obtain ⟨i0a, i0b, i0c⟩ := i0
  have tfE := tfe
  have eqE_ := eqE
  cases o
  · have cP : Fn Try.prog 39 [.sl 4 [bo a.1, u a.2.1, u a.2.2, bo A'.1, u A'.2.1, u A'.2.2, bo i'.1, u i'.2.1, u i'.2.2, bo c'.1, u c'.2.1, u c'.2.2], .sl 4 [bo b.1, u b.2.1, u b.2.2, bo B.1, u B.2.1, u B.2.2, bo C.1, u C.2.1, u C.2.2, bo D.1, u D.2.1, u D.2.2]] [] (fun r _ => r = .tup [.agg [u e1, u e2], er 1]) := cP
    refine AW.skip ?_
    repeat refine AW.seq ?_
    refine AW.drw 10 [1112] (by kernel_rfl) (h := ?_)
    iterate 8 refine ADL.dm 1 (h := ?_)
    refine ADL.call rfl (ct) (by kernel_rfl) rfl rfl (h := ?_)
    iterate 1 refine ADL.dm 1 (h := ?_)
    refine ADL.done hmix rfl rfl (hT := ?_)
    iterate 1 refine AOL.s1 (h := ?_)
    refine AOL.nil ?_
    refine AW.kq [3, 5, 7] (h := ?_)
    repeat refine AW.seq ?_
    refine AW.db [(25, 1128, ⟨80, true, [u e1, u e2]⟩)] 26 [1128] (by kernel_rfl) (h := ?_)
    iterate 4 refine ADLB.d1 (h := ?_)
    refine ADLB.call rfl rfl (nA) (by kernel_rfl) rfl rfl (by simp only [List.cons_append, List.nil_append]; exact rfl) ?_
    iterate 1 refine ADLB.d1 (h := ?_)
    refine ADLB.call rfl rfl (nI) (by kernel_rfl) rfl rfl (by simp only [List.cons_append, List.nil_append]; exact rfl) ?_
    iterate 2 refine ADLB.d1 (h := ?_)
    refine ADLB.call rfl rfl (nC) (by kernel_rfl) rfl rfl (by simp only [List.cons_append, List.nil_append]; exact rfl) ?_
    iterate 10 refine ADLB.d1 (h := ?_)
    refine ADLB.call rfl rfl (cP) (by kernel_rfl) rfl rfl (by simp only [List.cons_append, List.nil_append]; exact rfl) ?_
    iterate 4 refine ADLB.d1 (h := ?_)
    refine ADLB.sb 24 (h := ?_)
    refine ADLB.fin hmix rfl rfl rfl rfl (hT := ?_)
    iterate 1 refine AOL.s1 (h := ?_)
    refine AOL.nil ?_
    refine AW.kq [8, 9] (h := ?_)
    repeat refine AW.seq ?_
    refine AW.reg ?_
    iterate 3 refine AOL.s1 (h := ?_)
    iterate 4 refine AOL.s1 (h := ?_)
    refine AOL.nil ?_
    refine AW.kq [92] (h := ?_)
    repeat refine AW.seq ?_
  
    refine AW.cond rfl (fun c_ => ?_) (fun c_ => ?_)
    rotate_left
    · cases c_
    repeat refine AW.seq ?_
    refine AW.reg ?_
    iterate 2 refine AOL.s1 (h := ?_)
    refine AOL.nil ?_
    refine AW.kq [6] (h := ?_)
    repeat refine AW.seq ?_
    refine AW.ret ?_
    refine ⟨_, [], rfl, HOk.nil _, ?_⟩
    rfl
  · have cP : Fn Try.prog 39 [.sl 4 [bo a.1, u a.2.1, u a.2.2, bo A'.1, u A'.2.1, u A'.2.2, bo i'.1, u i'.2.1, u i'.2.2, bo c'.1, u c'.2.1, u c'.2.2], .sl 4 [bo b.1, u b.2.1, u b.2.2, bo B.1, u B.2.1, u B.2.2, bo C.1, u C.2.1, u C.2.2, bo D.1, u D.2.1, u D.2.2]] [] (fun r _ => r = .tup [.agg [u e1, u e2], nil_]) := cP
    refine AW.skip ?_
    repeat refine AW.seq ?_
    refine AW.drw 10 [1112] (by kernel_rfl) (h := ?_)
    iterate 8 refine ADL.dm 1 (h := ?_)
    refine ADL.call rfl (ct) (by kernel_rfl) rfl rfl (h := ?_)
    iterate 1 refine ADL.dm 1 (h := ?_)
    refine ADL.done hmix rfl rfl (hT := ?_)
    iterate 1 refine AOL.s1 (h := ?_)
    refine AOL.nil ?_
    refine AW.kq [3, 5, 7] (h := ?_)
    repeat refine AW.seq ?_
    refine AW.db [(25, 1128, ⟨80, true, [u e1, u e2]⟩)] 26 [1128] (by kernel_rfl) (h := ?_)
    iterate 4 refine ADLB.d1 (h := ?_)
    refine ADLB.call rfl rfl (nA) (by kernel_rfl) rfl rfl (by simp only [List.cons_append, List.nil_append]; exact rfl) ?_
    iterate 1 refine ADLB.d1 (h := ?_)
    refine ADLB.call rfl rfl (nI) (by kernel_rfl) rfl rfl (by simp only [List.cons_append, List.nil_append]; exact rfl) ?_
    iterate 2 refine ADLB.d1 (h := ?_)
    refine ADLB.call rfl rfl (nC) (by kernel_rfl) rfl rfl (by simp only [List.cons_append, List.nil_append]; exact rfl) ?_
    iterate 10 refine ADLB.d1 (h := ?_)
    refine ADLB.call rfl rfl (cP) (by kernel_rfl) rfl rfl (by simp only [List.cons_append, List.nil_append]; exact rfl) ?_
    iterate 4 refine ADLB.d1 (h := ?_)
    refine ADLB.sb 24 (h := ?_)
    refine ADLB.fin hmix rfl rfl rfl rfl (hT := ?_)
    iterate 1 refine AOL.s1 (h := ?_)
    refine AOL.nil ?_
    refine AW.kq [8, 9] (h := ?_)
    repeat refine AW.seq ?_
    refine AW.reg ?_
    iterate 3 refine AOL.s1 (h := ?_)
    iterate 4 refine AOL.s1 (h := ?_)
    refine AOL.nil ?_
    refine AW.kq [92] (h := ?_)
    repeat refine AW.seq ?_
  
    refine AW.cond rfl (fun c_ => ?_) (fun c_ => ?_)
    · have hx : ¬ ((e1, e2) = ((1, 0) : Int × Int)) := by
        intro h
        simp only [Prod.mk.injEq] at h
        simp [h.1, h.2] at c_
      repeat refine AW.seq ?_
      refine AW.reg ?_
      iterate 2 refine AOL.s1 (h := ?_)
      refine AOL.nil ?_
      refine AW.kq [6] (h := ?_)
      repeat refine AW.seq ?_
      refine AW.ret ?_
      refine ⟨_, [], rfl, HOk.nil _, ?_⟩
      exact (if_neg hx).symm
    have hx : (e1, e2) = ((1, 0) : Int × Int) := by
      simp at c_
      simp only [Prod.mk.injEq]
      exact c_
    refine AW.skip ?_
    repeat refine AW.seq ?_
    refine AW.reg ?_
    iterate 1 refine AOL.s1 (h := ?_)
    refine AOL.nil ?_
    refine AW.kq [6] (h := ?_)
    repeat refine AW.seq ?_
    refine AW.ret ?_
    refine ⟨_, [], rfl, HOk.nil _, ?_⟩
    exact (if_pos hx).symm
end Go.Proofs.Ytdbpjegocmdplaa.E.M
end
section
/- A proof of bytes: a contract over E. -/
set_option linter.unusedVariables false
set_option linter.unusedSimpArgs false
set_option maxRecDepth 10000
open Go Go.Proofs.Ytdbpjegocmdplaa.E Go.Proofs
namespace Go.Proofs.Ytdbpjegocmdplaa.E.M
def szR (r : List Int) : Nat := if r.head? = some 1 then 17 else 1
theorem readC_eq (L : List Int) : readC L = .tup [pt (readP L).1, er_ (readP L).2 3] := by
  unfold readC readP
  by_cases h : L = [0]
  · rw [if_pos h, if_pos h]
  · rw [if_neg h, if_neg h]
    by_cases h2 : L.length = 17 ∧ L.head? = some 1
    · rw [if_pos h2, if_pos h2]
      by_cases h3 : isPt false (num (L.drop 1)) (num (L.drop 9)) = true
      · rw [if_pos h3, if_pos h3]
      · rw [if_neg h3, if_neg h3]
    · rw [if_neg h2, if_neg h2]
theorem readP_w {L : List Int} (hb : ∀ b ∈ L, b8 b) : wP3 (readP L).1 := by
  have z : wP3 (false, 0, 0) := ⟨by decide, by decide⟩
  unfold readP
  by_cases h : L = [0]
  · rw [if_pos h]; exact ⟨by decide, by decide⟩
  · rw [if_neg h]
    by_cases h2 : L.length = 17 ∧ L.head? = some 1
    · rw [if_pos h2]
      by_cases h3 : isPt false (num (L.drop 1)) (num (L.drop 9)) = true
      · rw [if_pos h3]; exact ⟨num_w fun b h => hb b (List.mem_of_mem_drop h), num_w fun b h => hb b (List.mem_of_mem_drop h)⟩
      · rw [if_neg h3]; exact z
    · rw [if_neg h2]; exact z
def oneR (r : List Int) : Option (P3 × List Int) :=
  if r.length < szR r then none else
  match readP (r.take (szR r)) with
  | (a, true) => if inG a = true then some (a, r.drop (szR r)) else none
  | (_, false) => none
def failR : AV := .tup [pf (false, 0, 0) (false, 0, 0) (false, 0, 0), er 3]
def fromR : Nat → Nat → P3 → P3 → P3 → List Int → AV
  | 0, _, x, y, z, r => if r = [] then .tup [pf x y z, nil_] else failR
  | k + 1, j, x, y, z, r => match oneR r with
    | none => failR
    | some (a, r') => fromR k (j + 1) (if j = 0 then a else x) (if j = 1 then a else y) (if j = 2 then a else z) r'
def readG (b : List Int) : AV := fromR 3 0 (false, 0, 0) (false, 0, 0) (false, 0, 0) b
theorem sl_hd {L : List Int} {k : Nat} (hk : k ≤ L.length) : ∀ H, aSlice Try.prog 48 H (.sl L.length (by8 L)) none (some (i k)) none = some (.sl (L.take k).length (by8 (L.take k))) := by
  intro H
  have hs : tSlice Try.prog 48 = some 5 := rfl
  have hz : tSz Try.prog 5 = some 1 := rfl
  have c1 : ((0:Int) ≤ (k : Int)) = True := by simp
  have c2 : ((k : Int) ≤ L.length) = True := by simp; omega
  have c0 : ((0:Int) ≤ 0) = True := by simp
  have e : (by8 L).take k = by8 (L.take k) := by8_take L k
  have l : (L.take k).length = k := by rw [List.length_take]; omega
  simp only [aSlice, hs, hz, bnd, intOf?, c0, c1, c2, and_self, true_and, if_true, Int.toNat_natCast, Int.toNat_zero, Nat.mul_one, Nat.zero_mul, List.drop_zero, Nat.sub_zero, e, l]
set_option maxHeartbeats 16000000 in
theorem groth_Read_c {b : List Int} (hb : ∀ v ∈ b, b8 v) (lb : b.length < 140737488355328) : Fn Try.prog 15 [.sl b.length (by8 b)] [] (fun r h_ => r = readG b) := by
  refine Fn.enter Try.func15 Try.ntmps15 rfl (h := ?_)
  have tf := tf
  have ot_ : (false || true) = true := rfl
  have tfg := tfg
  have tfb := tfb
  have i3 : (3 : Nat) = 3 := rfl
  repeat refine AW.seq ?_
  refine AW.reg ?_
  iterate 2 refine AOL.s1 (h := ?_)
  refine AOL.nil ?_
  refine AW.kq [0, 2] (h := ?_)
  repeat refine AW.seq ?_
  refine AW.reg ?_
  iterate 1 refine AOL.s1 (h := ?_)
  refine AOL.nil ?_
  refine AW.kq [0, 2, 4] (h := ?_)
  repeat refine AW.seq ?_
  refine AW.reg ?_
  iterate 1 refine AOL.s1 (h := ?_)
  refine AOL.nil ?_
  refine AW.kq [0, 2, 4, 9] (h := ?_)
  repeat refine AW.seq ?_
  refine AW.block ?_
  repeat refine AW.seq ?_
  refine AW.loopK [0, 2, 4, 9] (fun n s => ∃ (j : Nat) (x y z : P3) (r : List Int), s = ⟨62, [(0, .sl r.length (by8 r)), (2, .ptr 1032 0), (4, .ptr 1064 0), (9, i j)], [(1032, ⟨43, true, [bo false, u 0, u 0, bo false, u 0, u 0, bo false, u 0, u 0]⟩), (1064, ⟨85, true, pfc x y z⟩)]⟩ ∧ j ≤ 3 ∧ n = 3 - j ∧ (∀ v ∈ r, b8 v) ∧ r.length < 140737488355328 ∧ fromR (3 - j) j x y z r = readG b) (3) ?_ ?_
  · exact ⟨0, _, _, _, b, rfl, Nat.zero_le _, rfl, hb, lb, rfl⟩
  rintro n s ⟨j, x, y, z, r, rfl, hj, rfl, hr, lr, hf⟩
  repeat refine AW.seq ?_
  refine AW.reg ?_
  iterate 1 refine AOL.s1 (h := ?_)
  refine AOL.nil ?_
  refine AW.kq [0, 2, 4, 9, 10] (h := ?_)
  repeat refine AW.seq ?_
  refine AW.cond rfl (fun c_ => ?_) (fun c_ => ?_)
  · have hj3 : j < 3 := by have : (j:Int) < 3 := by simpa using c_
                           omega
    obtain ⟨k, hk⟩ : ∃ k, 3 - j = k + 1 := ⟨2 - j, by omega⟩
    rw [hk] at hf
    simp only [fromR] at hf
    cases r with
    | nil =>
      have hz : oneR [] = none := rfl
      rw [hz] at hf
      rw [← hf]
      clear hf hk hj hj3 c_
      have bn : by8 [] = [] := rfl
      refine AW.skip ?_
      repeat refine AW.seq ?_
      refine AW.block ?_
      repeat refine AW.seq ?_
      refine AW.reg ?_
      iterate 2 refine AOL.s1 (h := ?_)
      refine AOL.nil ?_
      refine AW.kq [0, 2, 4, 5, 9] (h := ?_)
      repeat refine AW.seq ?_
      refine AW.reg ?_
      iterate 1 refine AOL.s1 (h := ?_)
      refine AOL.nil ?_
      refine AW.kq [0, 2, 4, 5, 6, 9] (h := ?_)
      repeat refine AW.seq ?_
      refine AW.reg ?_
      iterate 9 refine AOL.s1 (h := ?_)
      refine AOL.nil ?_
      refine AW.kq [0, 2, 4, 5, 6, 9, 20] (h := ?_)
      repeat refine AW.seq ?_
      refine AW.cond rfl (fun d_ => ?_) (fun d_ => ?_)
      · cases d_
      refine AW.skip ?_
      repeat refine AW.seq ?_
      refine AW.reg ?_
      iterate 4 refine AOL.s1 (h := ?_)
      refine AOL.nil ?_
      refine AW.kq [0, 2, 4, 5, 6, 9, 24] (h := ?_)
      repeat refine AW.seq ?_
      refine AW.cond rfl (fun e_ => ?_) (fun e_ => ?_)
      · repeat refine AW.seq ?_
        refine AW.reg ?_
        iterate 4 refine AOL.s1 (h := ?_)
        refine AOL.nil ?_
        refine AW.kq [2, 3] (h := ?_)
        repeat refine AW.seq ?_
        refine AW.ret ?_
        refine ⟨_, [], rfl, HOk.nil _, ?_⟩
        rfl
      cases e_
    | cons a r =>
    have bc : by8 (a :: r) = .val (.int .u8 a) :: by8 r := rfl
    have n0 : (0:Int) ≤ 0 := by decide
    have n1 : (0:Int) < ((r.length + 1 : Nat) : Int) := by omega
    clear c_
    refine AW.skip ?_
    repeat refine AW.seq ?_
    refine AW.block ?_
    repeat refine AW.seq ?_
    refine AW.reg ?_
    iterate 2 refine AOL.s1 (h := ?_)
    refine AOL.nil ?_
    refine AW.kq [0, 2, 4, 5, 9] (h := ?_)
    repeat refine AW.seq ?_
    refine AW.reg ?_
    iterate 1 refine AOL.s1 (h := ?_)
    refine AOL.nil ?_
    refine AW.kq [0, 2, 4, 5, 6, 9] (h := ?_)
    repeat refine AW.seq ?_
    refine AW.reg ?_
    iterate 4 refine AOL.s1 (h := ?_)
    skip
    iterate 5 refine AOL.s1 (h := ?_)
    refine AOL.nil ?_
    refine AW.kq [0, 2, 4, 5, 6, 9, 20] (h := ?_)
    repeat refine AW.seq ?_
    refine AW.midK [0, 2, 4, 5, 6, 9] (fun t => ∃ (m : Nat), t = ⟨62, [(0, .sl (a :: r).length (by8 (a :: r))), (2, .ptr 1032 0), (4, .ptr 1064 0), (5, i j), (6, i m), (9, i j)], [(1032, ⟨43, true, [bo false, u 0, u 0, bo false, u 0, u 0, bo false, u 0, u 0]⟩), (1064, ⟨85, true, pfc x y z⟩)]⟩ ∧ szR (a :: r) = m) ?_ ?_
    · refine AW.cond rfl (fun c_ => ?_) (fun c_ => ?_)
      · skip
        repeat refine AW.seq ?_
        refine AW.reg ?_
        iterate 1 refine AOL.s1 (h := ?_)
        refine AOL.nil ?_
        exact ⟨17, rfl, by have : a = 1 := by simpa using c_
                           subst this; rfl⟩
      · skip
        refine AW.skip ?_
        exact ⟨1, rfl, by have : ¬ a = 1 := by simpa using c_
                          unfold szR; rw [if_neg (by simpa using this)]⟩
    rintro t ⟨m, rfl, hm⟩
    clear bc n1 n0
    generalize a :: r = L at *
    repeat refine AW.seq ?_
    refine AW.reg ?_
    iterate 4 refine AOL.s1 (h := ?_)
    refine AOL.nil ?_
    refine AW.kq [0, 2, 4, 5, 6, 9, 24] (h := ?_)
    repeat refine AW.seq ?_
    refine AW.cond rfl (fun d_ => ?_) (fun d_ => ?_)
    · have dl : (L.length:Int) < m := by simpa using d_
      have hn : oneR L = none := by unfold oneR; rw [if_pos (by rw [hm]; omega)]
      rw [hn] at hf
      rw [← hf]
      repeat refine AW.seq ?_
      refine AW.reg ?_
      iterate 4 refine AOL.s1 (h := ?_)
      refine AOL.nil ?_
      refine AW.kq [2, 3] (h := ?_)
      repeat refine AW.seq ?_
      refine AW.ret ?_
      refine ⟨_, [], rfl, HOk.nil _, ?_⟩
      rfl
    have ge : m ≤ L.length := by have : ¬ (L.length:Int) < m := by simpa using d_
                                 omega
    have ho : oneR L = (match readP (L.take m) with | (a, true) => if inG a = true then some (a, L.drop m) else none | (_, false) => none) := by
      unfold oneR; rw [hm, if_neg (by omega)]
    have cR := curve_Read_c (L := L.take m) (fun b h => hr b (List.mem_of_mem_take h)) (by rw [List.length_take]; omega)
    have wR := readP_w (L := L.take m) (fun b h => hr b (List.mem_of_mem_take h))
    rw [readC_eq] at cR
    rw [ho] at hf
    clear ho
    have sh := sl_hd ge
    have sd := sl_at (L := L) rfl ge
    have hr' : ∀ v ∈ L.drop m, b8 v := fun v h => hr v (List.mem_of_mem_drop h)
    have lr' : (L.drop m).length < 140737488355328 := by rw [List.length_drop]; omega
    have ld : L.length - m = (L.drop m).length := by rw [List.length_drop]
    rw [ld] at sd
    clear ld hm ge d_ hr lr
    generalize readP (L.take m) = q at *
    generalize L.take m = Lt at *
    generalize L.drop m = Ld at *
    obtain ⟨⟨q0, q1, q2⟩, o⟩ := q
    cases o with
    | false =>
      have cR : Fn Try.prog 44 [.sl Lt.length (by8 Lt)] [] (fun r _ => r = .tup [pt (q0, q1, q2), er 3]) := cR
      have hf : failR = readG b := hf
      rw [← hf]
      refine AW.skip ?_
      repeat refine AW.seq ?_
      refine AW.reg ?_
      iterate 3 refine AOL.s1 (h := ?_)
      refine AOL.callD rfl (cR) (by kernel_rfl) rfl rfl (h := ?_)
      iterate 6 refine AOL.s1 (h := ?_)
      refine AOL.nil ?_
      refine AW.kq [0, 2, 4, 5, 6, 7, 8, 9] (h := ?_)
      repeat refine AW.seq ?_
      refine AW.reg ?_
      iterate 7 refine AOL.s1 (h := ?_)
      refine AOL.nil ?_
      refine AW.kq [0, 2, 4, 5, 6, 7, 9, 40] (h := ?_)
      repeat refine AW.seq ?_
      refine AW.cond rfl (fun e_ => ?_) (fun e_ => ?_)
      · repeat refine AW.seq ?_
        refine AW.reg ?_
        iterate 4 refine AOL.s1 (h := ?_)
        refine AOL.nil ?_
        refine AW.kq [2, 3] (h := ?_)
        repeat refine AW.seq ?_
        refine AW.ret ?_
        refine ⟨_, [], rfl, HOk.nil _, ?_⟩
        rfl
      cases e_
    | true =>
    have cR : Fn Try.prog 44 [.sl Lt.length (by8 Lt)] [] (fun r _ => r = .tup [pt (q0, q1, q2), nil_]) := cR
    have cI := curve_In_c (b := q0) wR.1 wR.2
    have hf : (match (if inP q0 q1 q2 = true then some ((q0, q1, q2), Ld) else none) with | none => failR | some (a, r') => fromR k (j + 1) (if j = 0 then a else x) (if j = 1 then a else y) (if j = 2 then a else z) r') = readG b := hf
    generalize inP q0 q1 q2 = w at *
    refine AW.skip ?_
    repeat refine AW.seq ?_
    refine AW.reg ?_
    iterate 3 refine AOL.s1 (h := ?_)
    refine AOL.callD rfl (cR) (by kernel_rfl) rfl rfl (h := ?_)
    iterate 6 refine AOL.s1 (h := ?_)
    refine AOL.nil ?_
    refine AW.kq [0, 2, 4, 5, 6, 7, 8, 9] (h := ?_)
    repeat refine AW.seq ?_
    refine AW.reg ?_
    iterate 4 refine AOL.s1 (h := ?_)
    refine AOL.callD rfl (cI) (by kernel_rfl) rfl rfl (h := ?_)
    iterate 2 refine AOL.s1 (h := ?_)
    refine AOL.nil ?_
    refine AW.kq [0, 2, 4, 5, 6, 7, 9, 40] (h := ?_)
    repeat refine AW.seq ?_
    refine AW.cond rfl (fun e_ => ?_) (fun e_ => ?_)
    · have hw : w = false := by simpa using e_
      rw [hw] at hf
      have hf : failR = readG b := hf
      rw [← hf]
      repeat refine AW.seq ?_
      refine AW.reg ?_
      iterate 4 refine AOL.s1 (h := ?_)
      refine AOL.nil ?_
      refine AW.kq [2, 3] (h := ?_)
      repeat refine AW.seq ?_
      refine AW.ret ?_
      refine ⟨_, [], rfl, HOk.nil _, ?_⟩
      rfl
    have hw : w = true := by simpa using e_
    rw [hw, if_pos rfl] at hf
    simp only at hf
    clear e_ hw cI cR
    refine AW.skip ?_
    repeat refine AW.seq ?_
    obtain ⟨x0, x1, x2⟩ := x
    obtain ⟨y0, y1, y2⟩ := y
    obtain ⟨z0, z1, z2⟩ := z
    rcases (show j = 0 ∨ j = 1 ∨ j = 2 by omega) with rfl | rfl | rfl
    · have hk : k = 2 := by omega
      subst hk
      have hf : fromR 2 1 (q0, q1, q2) (y0, y1, y2) (z0, z1, z2) Ld = readG b := hf
      clear hj hj3 wR
      have jz : decide (((0 : Nat) : Int) < ((3 : Nat) : Int)) = true := by decide
      have jz0 : (0:Int) ≤ ((0 : Nat) : Int) := by decide
      have jz1 : ((0 : Nat) : Int) < ((3 : Nat) : Int) := by decide
      have jz2 : ((0 : Nat) : Int) < 3 := by decide
      have jn : IntKind.i64.wrap (((0 : Nat) : Int) + 1) = ((1 : Nat) : Int) := by decide
      refine AW.dw [(6, 1064, ⟨85, true, pfc (q0, q1, q2) (y0, y1, y2) (z0, z1, z2)⟩)] 7 [] (by kernel_rfl) (h := ?_)
      iterate 6 refine ADLW.d1 (h := ?_)
      refine ADLW.st (h := ?_)
      refine ADLW.fin hmix rfl rfl rfl rfl (hT := ?_)
      iterate 1 refine AOL.s1 (h := ?_)
      refine AOL.nil ?_
      repeat refine AW.seq ?_
      refine AW.let 1112 (h := ?_)
      refine AW.reg ?_
      iterate 2 refine AOL.s1 (h := ?_)
      refine AOL.nil ?_
      exact ⟨2, by omega, 1, _, _, _, Ld, rfl, by decide, rfl, hr', lr', hf⟩
    · have hk : k = 1 := by omega
      subst hk
      have hf : fromR 1 2 (x0, x1, x2) (q0, q1, q2) (z0, z1, z2) Ld = readG b := hf
      clear hj hj3 wR
      have jz : decide (((1 : Nat) : Int) < ((3 : Nat) : Int)) = true := by decide
      have jz0 : (0:Int) ≤ ((1 : Nat) : Int) := by decide
      have jz1 : ((1 : Nat) : Int) < ((3 : Nat) : Int) := by decide
      have jz2 : ((1 : Nat) : Int) < 3 := by decide
      have jn : IntKind.i64.wrap (((1 : Nat) : Int) + 1) = ((2 : Nat) : Int) := by decide
      refine AW.dw [(6, 1064, ⟨85, true, pfc (x0, x1, x2) (q0, q1, q2) (z0, z1, z2)⟩)] 7 [] (by kernel_rfl) (h := ?_)
      iterate 6 refine ADLW.d1 (h := ?_)
      refine ADLW.st (h := ?_)
      refine ADLW.fin hmix rfl rfl rfl rfl (hT := ?_)
      iterate 1 refine AOL.s1 (h := ?_)
      refine AOL.nil ?_
      repeat refine AW.seq ?_
      refine AW.let 1112 (h := ?_)
      refine AW.reg ?_
      iterate 2 refine AOL.s1 (h := ?_)
      refine AOL.nil ?_
      exact ⟨1, by omega, 2, _, _, _, Ld, rfl, by decide, rfl, hr', lr', hf⟩
    · have hk : k = 0 := by omega
      subst hk
      have hf : fromR 0 3 (x0, x1, x2) (y0, y1, y2) (q0, q1, q2) Ld = readG b := hf
      clear hj hj3 wR
      have jz : decide (((2 : Nat) : Int) < ((3 : Nat) : Int)) = true := by decide
      have jz0 : (0:Int) ≤ ((2 : Nat) : Int) := by decide
      have jz1 : ((2 : Nat) : Int) < ((3 : Nat) : Int) := by decide
      have jz2 : ((2 : Nat) : Int) < 3 := by decide
      have jn : IntKind.i64.wrap (((2 : Nat) : Int) + 1) = ((3 : Nat) : Int) := by decide
      refine AW.dw [(6, 1064, ⟨85, true, pfc (x0, x1, x2) (y0, y1, y2) (q0, q1, q2)⟩)] 7 [] (by kernel_rfl) (h := ?_)
      iterate 6 refine ADLW.d1 (h := ?_)
      refine ADLW.st (h := ?_)
      refine ADLW.fin hmix rfl rfl rfl rfl (hT := ?_)
      iterate 1 refine AOL.s1 (h := ?_)
      refine AOL.nil ?_
      repeat refine AW.seq ?_
      refine AW.let 1112 (h := ?_)
      refine AW.reg ?_
      iterate 2 refine AOL.s1 (h := ?_)
      refine AOL.nil ?_
      exact ⟨0, by omega, 3, _, _, _, Ld, rfl, by decide, rfl, hr', lr', hf⟩
  · have hj : j = 3 := by have : ¬ (j:Int) < 3 := by simpa using c_
                          omega
    subst hj
    have hf : (if r = [] then .tup [pf x y z, nil_] else failR) = readG b := hf
    clear c_
    repeat refine AW.seq ?_
    refine AW.exit ?_
    repeat (first | refine Kseq.ex ?_ | refine Kloop.ex ?_ | refine Kblock.miss (by decide) ?_)
    refine Kblock.hit ?_
    refine AW.kq [0, 2, 4] (h := ?_)
    repeat refine AW.seq ?_
    refine AW.reg ?_
    iterate 3 refine AOL.s1 (h := ?_)
    refine AOL.nil ?_
    refine AW.kq [2, 4, 52] (h := ?_)
    repeat refine AW.seq ?_
    refine AW.cond rfl (fun e_ => ?_) (fun e_ => ?_)
    · have hr0 : ¬ r = [] := by
        intro h; rw [h] at e_; cases e_
      rw [if_neg hr0] at hf
      rw [← hf]
      repeat refine AW.seq ?_
      refine AW.reg ?_
      iterate 4 refine AOL.s1 (h := ?_)
      refine AOL.nil ?_
      refine AW.kq [2, 3] (h := ?_)
      repeat refine AW.seq ?_
      refine AW.ret ?_
      refine ⟨_, [], rfl, HOk.nil _, ?_⟩
      rfl
    have hr0 : r = [] := by
      cases r with
      | nil => rfl
      | cons a r => simp at e_
    rw [if_pos hr0] at hf
    rw [← hf]
    refine AW.skip ?_
    repeat refine AW.seq ?_
    refine AW.reg ?_
    iterate 9 refine AOL.s1 (h := ?_)
    refine AOL.nil ?_
    refine AW.kq [2, 3] (h := ?_)
    repeat refine AW.seq ?_
    refine AW.ret ?_
    refine ⟨_, [], rfl, HOk.nil _, ?_⟩
    rfl
end Go.Proofs.Ytdbpjegocmdplaa.E.M
end
section
/- Whether values hold for a system: a contract over E. -/
set_option linter.unusedVariables false
set_option linter.unusedSimpArgs false
set_option maxRecDepth 10000
open Go Go.Proofs.Ytdbpjegocmdplaa.E Go.Proofs
namespace Go.Proofs.Ytdbpjegocmdplaa.E.M
abbrev spot (k n : Int) : AV := .ifc 120 (.fptr [i k, er n])
def rowsH (V : List Int) : Nat → List Rw → AV
  | _, [] => nil_
  | k, r :: l => if valF V 0 r.a * valF V 0 r.b % 288230376287764481 = valF V 0 r.c then rowsH V (k + 1) l else spot k 8
def greatF (V : List Int) : Bool := V.any fun v => decide (v ≥ 288230376287764481)
def holdsF (s : Rk) (V : List Int) : AV := if chkF s then (if (V.length : Int) ≠ s.v ∨ V.head? ≠ some 1 ∨ greatF V = true then er 1 else rowsH V 0 s.l) else er 3
abbrev wR (s : Rk) : Prop := ∀ r ∈ s.l, wT r.a ∧ wT r.b ∧ wT r.c
theorem chk_v {s : Rk} (h : chkF s = true) : 1 ≤ s.v ∧ s.v ≤ 4096 ∧ 0 ≤ s.p ∧ s.p < s.v := by
  unfold chkF at h
  split at h
  · cases h
  · rename_i hb
    simp [badF] at hb
    omega
set_option maxHeartbeats 8000000 in
theorem rank_Holds_c {s : Rk} {V : List Int} (hS : Len s) (hW : wR s) (hV : wV V) (lV : V.length < 1000000000) : Fn Try.prog 58 [.agg (rk s), ul V] [] (fun r h_ => r = holdsF s V) := by
  refine Fn.enter Try.func58 Try.ntmps58 rfl (h := ?_)
  have tf := tfr
  have ot_ : (false || true) = true := rfl
  obtain ⟨sv, sp, sl_⟩ := s
  have cC := rank_Check_c hS
  have hG : Fn Try.prog 22 [ul V, .clo 82 []] [] (fun r _ => r = bo (greatF V)) := slices_ContainsFunc_uint64_uint64_c lV hV (by kernel_rfl) (fun v _ => rank_Holds_1_c)
  unfold holdsF
  cases hc : chkF ⟨sv, sp, sl_⟩ with
  | false =>
    rw [hc] at cC
    have cC : Fn Try.prog 48 [.agg (rk ⟨sv, sp, sl_⟩)] [] (fun r _ => r = er 3) := cC
    repeat refine AW.seq ?_
    refine AW.reg ?_
    iterate 2 refine AOL.s1 (h := ?_)
    refine AOL.nil ?_
    refine AW.kq [1, 2] (h := ?_)
    repeat refine AW.seq ?_
    refine AW.reg ?_
    iterate 1 refine AOL.s1 (h := ?_)
    refine AOL.callD rfl (cC) (by kernel_rfl) rfl rfl (h := ?_)
    iterate 1 refine AOL.s1 (h := ?_)
    refine AOL.nil ?_
    refine AW.kq [1, 2, 5] (h := ?_)
    repeat refine AW.seq ?_
    refine AW.reg ?_
    iterate 2 refine AOL.s1 (h := ?_)
    refine AOL.nil ?_
    refine AW.kq [1, 2, 5, 11] (h := ?_)
    repeat refine AW.seq ?_
    refine AW.cond rfl (fun c_ => ?_) (fun c_ => ?_)
    · repeat refine AW.seq ?_
      refine AW.reg ?_
      iterate 2 refine AOL.s1 (h := ?_)
      refine AOL.nil ?_
      refine AW.kq [4] (h := ?_)
      repeat refine AW.seq ?_
      refine AW.ret ?_
      refine ⟨_, [], rfl, HOk.nil _, ?_⟩
      rfl
    cases c_
  | true =>
  rw [hc] at cC
  have cC : Fn Try.prog 48 [.agg (rk ⟨sv, sp, sl_⟩)] [] (fun r _ => r = nil_) := cC
  obtain ⟨v1, v2, _, _⟩ := chk_v hc
  simp only at v1 v2
  rw [if_pos rfl]
  cases V with
  | nil =>
    rw [if_pos (.inl (by simp only [List.length_nil]; omega))]
    have hne : decide (((0 : Nat) : Int) ≠ sv) = true := by simp; omega
    have hne2 : (((0 : Nat) : Int) != sv) = true := by simp; omega
    repeat refine AW.seq ?_
    refine AW.reg ?_
    iterate 2 refine AOL.s1 (h := ?_)
    refine AOL.nil ?_
    refine AW.kq [1, 2] (h := ?_)
    repeat refine AW.seq ?_
    refine AW.reg ?_
    iterate 1 refine AOL.s1 (h := ?_)
    refine AOL.callD rfl (cC) (by kernel_rfl) rfl rfl (h := ?_)
    iterate 1 refine AOL.s1 (h := ?_)
    refine AOL.nil ?_
    refine AW.kq [1, 2, 5] (h := ?_)
    repeat refine AW.seq ?_
    refine AW.reg ?_
    iterate 2 refine AOL.s1 (h := ?_)
    refine AOL.nil ?_
    refine AW.kq [1, 2, 5, 11] (h := ?_)
    repeat refine AW.seq ?_
    refine AW.cond rfl (fun c_ => ?_) (fun c_ => ?_)
    · cases c_
    refine AW.skip ?_
    repeat refine AW.seq ?_
    refine AW.reg ?_
    iterate 6 refine AOL.s1 (h := ?_)
    iterate 5 refine AOL.s1 (h := ?_)
    iterate 4 refine AOL.s1 (h := ?_)
    refine AOL.nil ?_
    refine AW.kq [1, 2, 27] (h := ?_)
    repeat refine AW.seq ?_
    refine AW.cond rfl (fun d_ => ?_) (fun d_ => ?_)
    · repeat refine AW.seq ?_
      refine AW.reg ?_
      iterate 2 refine AOL.s1 (h := ?_)
      refine AOL.nil ?_
      refine AW.kq [4] (h := ?_)
      repeat refine AW.seq ?_
      refine AW.ret ?_
      refine ⟨_, [], rfl, HOk.nil _, ?_⟩
      rfl
    cases d_
  | cons v0 V' =>
  have hh0 : (v0 :: V').head? = some v0 := rfl
  have hd0 : (fm u1 (v0 :: V')).head? = some (u v0) := rfl
  have l0 : (0:Int) < (v0 :: V').length := by simp only [List.length_cons]; omega
  have z0 : (0:Int) ≤ 0 := by decide
  generalize v0 :: V' = V at *
  repeat refine AW.seq ?_
  refine AW.reg ?_
  iterate 2 refine AOL.s1 (h := ?_)
  refine AOL.nil ?_
  refine AW.kq [1, 2] (h := ?_)
  repeat refine AW.seq ?_
  refine AW.reg ?_
  iterate 1 refine AOL.s1 (h := ?_)
  refine AOL.callD rfl (cC) (by kernel_rfl) rfl rfl (h := ?_)
  iterate 1 refine AOL.s1 (h := ?_)
  refine AOL.nil ?_
  refine AW.kq [1, 2, 5] (h := ?_)
  repeat refine AW.seq ?_
  refine AW.reg ?_
  iterate 2 refine AOL.s1 (h := ?_)
  refine AOL.nil ?_
  refine AW.kq [1, 2, 5, 11] (h := ?_)
  repeat refine AW.seq ?_
  refine AW.cond rfl (fun b_ => ?_) (fun b_ => ?_)
  · cases b_
  refine AW.skip ?_
  repeat refine AW.seq ?_
  refine AW.reg ?_
  iterate 6 refine AOL.s1 (h := ?_)
  refine AOL.kq [1, 2, 18] (h := ?_)
  refine AOL.or 18 23 (os' := ?_) (x := ?_) (h1 := ?_) (h0 := ?_) (h := ?_)
  rotate_left 2
  iterate 2
    · intro hb_ K' hK; (iterate 5 refine AOL.s1 (h := ?_)); refine AOL.kq [1, 2, 23] (h := ?_); exact hK
  iterate 1 refine AOL.s1 (h := ?_)
  refine AOL.kq [1, 2, 24] (h := ?_)
  refine AOL.or 24 27 (os' := ?_) (x := ?_) (h1 := ?_) (h0 := ?_) (h := ?_)
  rotate_left 2
  iterate 2
    · intro hb_ K' hK; (first | (iterate 3 refine AOL.s1 (h := ?_)) | ((iterate 1 refine AOL.s1 (h := ?_)); refine AOL.callD rfl (hG) (by kernel_rfl) rfl rfl (h := ?_); (iterate 1 refine AOL.s1 (h := ?_)))); refine AOL.kq [1, 2, 27] (h := ?_); exact hK
  refine AOL.nil ?_
  refine AW.kq [1, 2, 27] (h := ?_)
  repeat refine AW.seq ?_
  refine AW.cond rfl (fun d_ => ?_) (fun d_ => ?_)
  · rw [if_pos (by
      simp only [Bool.or_eq_true] at d_
      rcases d_ with (h | h) | h
      · exact .inl (by simpa using h)
      · exact .inr (.inl (by rw [hh0]; simpa using h))
      · exact .inr (.inr h))]
    repeat refine AW.seq ?_
    refine AW.reg ?_
    iterate 2 refine AOL.s1 (h := ?_)
    refine AOL.nil ?_
    refine AW.kq [4] (h := ?_)
    repeat refine AW.seq ?_
    refine AW.ret ?_
    refine ⟨_, [], rfl, HOk.nil _, ?_⟩
    rfl
  rw [if_neg (by
    simp only [Bool.or_eq_false_iff] at d_
    obtain ⟨⟨h1, h2⟩, h3⟩ := d_
    rintro (h | h | h)
    · simp only [decide_eq_false_iff_not, Decidable.not_not, bne_eq_false_iff_eq] at h1; exact h h1
    · simp only [decide_eq_false_iff_not, Decidable.not_not, bne_eq_false_iff_eq] at h2; exact h (by rw [hh0, h2])
    · rw [h3] at h; cases h)]
  clear d_ hG hd0 l0 cC
  have hl := hS.1
  simp only at hl
  have hS2 := hS.2
  simp only at hS2
  have hW2 : ∀ r ∈ sl_, wT r.a ∧ wT r.b ∧ wT r.c := hW
  refine AW.skip ?_
  repeat refine AW.seq ?_
  refine AW.reg ?_
  iterate 4 refine AOL.s1 (h := ?_)
  refine AOL.nil ?_
  refine AW.kq [1, 30, 31, 32] (h := ?_)
  repeat refine AW.seq ?_
  refine AW.block ?_
  repeat refine AW.seq ?_
  refine AW.let 1032 (h := ?_)
  refine AW.loopK [1, 30, 31, 32] (fun n s => ∃ (k : Nat) (r : List Rw), s = ⟨57, [(1, ul V), (30, slF rw_ sl_), (31, i sl_.length), (32, i k)], []⟩ ∧ sl_.drop k = r ∧ k ≤ sl_.length ∧ n = r.length ∧ rowsH V k r = rowsH V 0 sl_) (sl_.length) ?_ ?_
  · exact ⟨0, sl_, rfl, rfl, Nat.zero_le _, rfl, rfl⟩
  rintro n s ⟨k, r, rfl, hr, hkl, rfl, hi⟩
  repeat refine AW.seq ?_
  refine AW.reg ?_
  iterate 1 refine AOL.s1 (h := ?_)
  refine AOL.nil ?_
  refine AW.kq [1, 30, 31, 32, 33] (h := ?_)
  repeat refine AW.seq ?_
  refine AW.cond rfl (fun e_ => ?_) (fun e_ => ?_)
  · obtain ⟨t, r, rfl⟩ := ends_cons hr hkl (by simpa using e_)
    obtain ⟨hlt, hr', ht⟩ := dconsq hr
    have hd : (fm rw_ sl_).drop (k * 3) = slF tm t.a :: slF tm t.b :: slF tm t.c :: fm rw_ r := fm_drop rw_len hr
    have k0 : (0:Int) ≤ k := by omega
    have k1 : (k:Int) < sl_.length := by omega
    have hw := incq hlt hl
    obtain ⟨la, lb, lc⟩ := hS2 t (List.mem_of_getElem? ht)
    obtain ⟨wa, wb, wc⟩ := hW2 t (List.mem_of_getElem? ht)
    have ca := rank_Value_c la hV wa
    have cb := rank_Value_c lb hV wb
    have cc := rank_Value_c lc hV wc
    have za := valF_w (V := V) t.a (out := 0) (by decide)
    have zb := valF_w (V := V) t.b (out := 0) (by decide)
    simp only [rowsH] at hi
    clear hr ht hS hW hS2 hW2 e_ la lb lc wa wb wc hV hc
    generalize valF V 0 t.a = xa at *
    generalize valF V 0 t.b = xb at *
    generalize valF V 0 t.c = xc at *
    refine AW.skip ?_
    repeat refine AW.seq ?_
    refine AW.block ?_
    repeat refine AW.seq ?_
    refine AW.reg ?_
    iterate 6 refine AOL.s1 (h := ?_)
    refine AOL.nil ?_
    refine AW.kq [1, 6, 7, 30, 31, 32] (h := ?_)
    repeat refine AW.seq ?_
    refine AW.drw 12 [] (by kernel_rfl) (h := ?_)
    iterate 3 refine ADL.dm 1 (h := ?_)
    refine ADL.call rfl (ca) (by kernel_rfl) rfl rfl (h := ?_)
    iterate 3 refine ADL.dm 1 (h := ?_)
    refine ADL.call rfl (cb) (by kernel_rfl) rfl rfl (h := ?_)
    refine ADL.call rfl (modular_Mul_c hR za zb) (by kernel_rfl) rfl rfl (h := ?_)
    iterate 3 refine ADL.dm 1 (h := ?_)
    refine ADL.done hmix rfl rfl (hT := ?_)
    refine AOL.callD rfl (cc) (by kernel_rfl) rfl rfl (h := ?_)
    iterate 1 refine AOL.s1 (h := ?_)
    refine AOL.nil ?_
    refine AW.kq [1, 6, 30, 31, 32, 50] (h := ?_)
    repeat refine AW.seq ?_
    refine AW.cond rfl (fun f_ => ?_) (fun f_ => ?_)
    · have hf : rowsH V 0 sl_ = spot k 8 := by rw [← hi, if_neg (by simpa using f_)]
      rw [hf]
      repeat refine AW.seq ?_
      refine AW.reg ?_
      iterate 6 refine AOL.s1 (h := ?_)
      refine AOL.nil ?_
      refine AW.kq [4] (h := ?_)
      refine AW.fz 1864 rfl (fun _ => rfl) (h := ?_)
      repeat refine AW.seq ?_
      refine AW.ret ?_
      refine ⟨_, [], rfl, HOk.nil _, ?_⟩
      rfl
    have hf : rowsH V (k + 1) r = rowsH V 0 sl_ := by rw [← hi, if_pos (by simpa using f_)]
    refine AW.skip ?_
    repeat refine AW.seq ?_
    refine AW.let 1112 (h := ?_)
    refine AW.reg ?_
    iterate 2 refine AOL.s1 (h := ?_)
    refine AOL.nil ?_
    exact ⟨r.length, by simp, _, r, rfl, hr', hlt, rfl, hf⟩
  · obtain rfl := ends_nil hr (by simpa using e_)
    have hg : rowsH V 0 sl_ = nil_ := hi.symm
    clear hi hr
    rw [hg]
    repeat refine AW.seq ?_
    refine AW.exit ?_
    repeat (first | refine Kseq.ex ?_ | refine Kloop.ex ?_ | refine Kblock.miss (by decide) ?_)
    refine Kblock.hit ?_
    refine AW.kq [] (h := ?_)
    repeat refine AW.seq ?_
    refine AW.reg ?_
    iterate 1 refine AOL.s1 (h := ?_)
    refine AOL.nil ?_
    refine AW.kq [4] (h := ?_)
    repeat refine AW.seq ?_
    refine AW.ret ?_
    refine ⟨_, [], rfl, HOk.nil _, ?_⟩
    rfl
end Go.Proofs.Ytdbpjegocmdplaa.E.M
end
section
/- Polynomials: a domain's powers, its base's values: contracts over E. -/
set_option linter.unusedVariables false
set_option linter.unusedSimpArgs false
set_option maxRecDepth 10000
open Go Go.Proofs.Ytdbpjegocmdplaa.E Go.Proofs
namespace Go.Proofs.Ytdbpjegocmdplaa.E.M
abbrev blk (L : List Int) : Blk := ⟨25, false, fm u1 L⟩
theorem u1_free (n : Int) : frees (u1 n) = true := rfl
theorem fml (L : List Int) : (fm u1 L).length = L.length := by rw [fm_len u1_len, Nat.mul_one]
theorem fm_rep : ∀ n : Nat, List.replicate n (u 0) = fm u1 (List.replicate n 0)
  | 0 => rfl
  | n + 1 => by rw [List.replicate_succ, List.replicate_succ, fm_rep n]; rfl
theorem fset : ∀ (L : List Int) (k : Nat) (v : Int), (fm u1 L).set k (u v) = fm u1 (L.set k v)
  | [], _, _ => rfl
  | a :: L, 0, v => rfl
  | a :: L, k + 1, v => by
    show u a :: (fm u1 L).set k (u v) = u a :: fm u1 (L.set k v)
    rw [fset L k v]
theorem mk64 {n : Nat} (h : n ≤ 1000000000) : ∀ st d, aMake Try.prog st d 28 (n:Int) (n:Int) = some (.ref (lab d) 0 n 1, st.new (lab d) (blk (List.replicate n 0))) := by
  intro st d
  have tf := tfr
  have e : cMake Try.prog 28 (n:Int) (n:Int) = some (25, 1, List.replicate n (u 0)) := by
    simp only [cMake, tf]
    rw [if_pos (by refine ⟨rfl, by decide, rfl, by omega, by omega, by omega, by omega⟩)]
    rfl
  simp only [aMake, e, Option.map_some, Int.toNat_natCast, fm_rep]
theorem shlu {k : Nat} (h : k ≤ 13) : IntKind.u64.wrap (1 * 2 ^ min ((k:Int).toNat) IntKind.u64.bits) = ((2 ^ k : Nat) : Int) := by
  rw [Int.toNat_natCast, Nat.min_eq_left (by simp [IntKind.bits]; omega)]
  have : k = 0 ∨ k = 1 ∨ k = 2 ∨ k = 3 ∨ k = 4 ∨ k = 5 ∨ k = 6 ∨ k = 7 ∨ k = 8 ∨ k = 9 ∨ k = 10 ∨ k = 11 ∨ k = 12 ∨ k = 13 := by omega
  rcases this with rfl | rfl | rfl | rfl | rfl | rfl | rfl | rfl | rfl | rfl | rfl | rfl | rfl | rfl <;> decide
theorem two_le {k : Nat} (h : k ≤ 12) : 1 ≤ 2 ^ k ∧ 2 ^ k ≤ 4096 := by
  have : k = 0 ∨ k = 1 ∨ k = 2 ∨ k = 3 ∨ k = 4 ∨ k = 5 ∨ k = 6 ∨ k = 7 ∨ k = 8 ∨ k = 9 ∨ k = 10 ∨ k = 11 ∨ k = 12 := by omega
  rcases this with rfl | rfl | rfl | rfl | rfl | rfl | rfl | rfl | rfl | rfl | rfl | rfl | rfl <;> decide
/-- a domain's first power -/
def rootF (k : Nat) : Int := ipow 288230376287764481 3 (288230376287764480 / 2 ^ k)
theorem ipow_w {a e : Int} (ha : 0 ≤ a) (he : w64 e) : w64 (ipow 288230376287764481 a e) := by
  rw [ipow_eq (by decide) ha he]; exact w64_r _
theorem rootF_w (k : Nat) (h : k ≤ 12) : w64 (rootF k) := by
  refine ipow_w (by decide) ?_
  have := two_le h
  exact (shr_b (y := 288230376287764480) (k := k) (by decide) (by omega)).2
theorem shr_root {k : Nat} (h : k ≤ 12) : (288230376287764480 : Int).fdiv (2 ^ min ((k:Int).toNat) IntKind.u64.bits) = 288230376287764480 / 2 ^ k := by
  rw [Int.toNat_natCast]; exact (shr_b (y := 288230376287764480) (by decide) (by omega)).1
theorem w64_root {k : Nat} (h : k ≤ 12) : w64 (288230376287764480 / 2 ^ k) := (shr_b (y := 288230376287764480) (k := k) (by decide) (by omega)).2
set_option maxHeartbeats 1000000 in
theorem poly_Root_c {k : Nat} (h : k ≤ 12) : Fn Try.prog 78 [i k] [] (fun r h_ => r = .tup [u (rootF k), nil_]) := by
  refine Fn.enter Try.func78 Try.ntmps78 rfl (h := ?_)
  have tf := tfr
  have ot_ : (false || true) = true := rfl
  have k0 : ¬ (k:Int) < 0 := by omega
  have k1 : decide ((k:Int) < 0) = false := by simp
  have k2 : decide ((k:Int) > 12) = false := by simp; omega
  have sh := shr_root h
  rw [Int.toNat_natCast] at sh
  have hw := w64_root h
  unfold rootF
  repeat refine AW.seq ?_
  refine AW.reg ?_
  iterate 2 refine AOL.s1 (h := ?_)
  refine AOL.nil ?_
  refine AW.kq [0] (h := ?_)
  repeat refine AW.seq ?_
  refine AW.reg ?_
  iterate 3 refine AOL.s1 (h := ?_)
  refine AOL.kq [0, 6] (h := ?_)
  refine AOL.or 6 9 (os' := ?_) (x := ?_) (h1 := ?_) (h0 := ?_) (h := ?_)
  rotate_left 2
  iterate 2
    · intro hb_ K' hK; (iterate 3 refine AOL.s1 (h := ?_)); refine AOL.kq [0, 9] (h := ?_); exact hK
  refine AOL.nil ?_
  refine AW.kq [0, 9] (h := ?_)
  repeat refine AW.seq ?_
  refine AW.cond rfl (fun c_ => ?_) (fun c_ => ?_)
  · simp at c_ <;> omega
  refine AW.skip ?_
  repeat refine AW.seq ?_
  refine AW.reg ?_
  iterate 2 refine AOL.s1 (h := ?_)
  refine AOL.callD rfl (modular_Pow_c hR (by decide) hw) (by kernel_rfl) rfl rfl (h := ?_)
  iterate 2 refine AOL.s1 (h := ?_)
  refine AOL.nil ?_
  refine AW.kq [2, 3] (h := ?_)
  repeat refine AW.seq ?_
  refine AW.ret ?_
  refine ⟨_, [], rfl, HOk.nil _, ?_⟩
  rfl
/-- a power of the first one -/
def pwq (w : Int) : Nat → Int
  | 0 => 1
  | j + 1 => pwq w j * w % 288230376287764481
theorem pw_w (w : Int) : ∀ j, w64 (pwq w j)
  | 0 => by show w64 1; decide
  | j + 1 => w64_r _
end Go.Proofs.Ytdbpjegocmdplaa.E.M
end
