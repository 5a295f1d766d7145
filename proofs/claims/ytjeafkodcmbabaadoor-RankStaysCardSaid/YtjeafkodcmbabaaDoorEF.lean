/- E, a reader of Go's code as the model has it: a contract of a function is proved over values that are told without memory (EF). -/
import Derived.Test.YtjeafkodcmbabaaDoorEE

set_option linter.unusedVariables false
set_option linter.unusedSimpArgs false
open Go
namespace Go.Proofs.YtjeafkodcmbabaaDoor.E
set_option linter.unusedVariables false
set_option linter.unusedSimpArgs false
/-! ## Writes among what may stand in any order: each to a block that nothing else there touches -/
abbrev Wr := List (Nat × Nat × Blk)
def newB (W : Wr) (S : Nat → Bool) (l : Nat) (B : Blk) : Blk := match W with
  | [] => B
  | e :: r => if e.2.1 = l then (if S e.1 = true then e.2.2 else B) else newB r S l B
def hW (W : Wr) (S : Nat → Bool) (h : List (Nat × Blk)) : List (Nat × Blk) := h.map fun p => (p.1, newB W S p.1 p.2)
def inW (l : Nat) : Wr → Bool
  | [] => false
  | e :: r => if e.2.1 = l then true else inW l r
def hV (W : Wr) : List (Nat × Blk) → List (Nat × Blk)
  | [] => []
  | p :: r => match inW p.1 W with | true => hV W r | false => p :: hV W r
def okW : Wr → Bool
  | [] => true
  | e :: r => (r.all fun x => decide (x.1 ≠ e.1) && decide (x.2.1 ≠ e.2.1)) && okW r
theorem newB_out {S : Nat → Bool} {l : Nat} {B : Blk} : ∀ {W : Wr}, inW l W = false → newB W S l B = B
  | [], _ => rfl
  | e :: r, h => by
    simp only [inW] at h
    split at h
    · cases h
    · rename_i hne; simp only [newB, if_neg hne]; exact newB_out h
theorem mem_hV {W : Wr} {p : Nat × Blk} : ∀ {h : List (Nat × Blk)}, p ∈ hV W h → p ∈ h ∧ inW p.1 W = false
  | [], hp => by cases hp
  | q :: r, hp => by
    simp only [hV] at hp
    split at hp
    · have := mem_hV hp; exact ⟨List.mem_cons_of_mem _ this.1, this.2⟩
    · rename_i hq
      rcases List.mem_cons.1 hp with rfl | hp
      · exact ⟨by simp, hq⟩
      · have := mem_hV hp; exact ⟨List.mem_cons_of_mem _ this.1, this.2⟩
theorem hV_sub {W : Wr} {S : Nat → Bool} {h : List (Nat × Blk)} : ∀ p ∈ hV W h, p ∈ hW W S h := by
  intro p hp
  obtain ⟨h1, h2⟩ := mem_hV hp
  refine List.mem_map.2 ⟨p, h1, ?_⟩
  rw [newB_out h2]
theorem hW_key {W : Wr} {S : Nat → Bool} {h : List (Nat × Blk)} {l : Nat} (hn : ∀ C, (l, C) ∉ h) : ∀ C, (l, C) ∉ hW W S h := by
  intro C hC
  obtain ⟨q, hq, e⟩ := List.mem_map.1 hC
  cases e
  exact hn _ hq
theorem newB_off {S : Nat → Bool} {i : Nat} {l : Nat} {B : Blk} : ∀ {W : Wr}, (∀ e ∈ W, e.1 ≠ i) → newB W (upd S i) l B = newB W S l B
  | [], _ => rfl
  | e :: r, h => by
    simp only [newB]
    have h1 : e.1 ≠ i := h e (by simp)
    have : upd S i e.1 = S e.1 := by simp [upd, h1]
    rw [this, newB_off fun x hx => h x (List.mem_cons_of_mem _ hx)]
theorem hW_off {W : Wr} {S : Nat → Bool} {i : Nat} {h : List (Nat × Blk)} (hn : ∀ e ∈ W, e.1 ≠ i) : hW W (upd S i) h = hW W S h := by
  unfold hW; congr 1; funext p; rw [newB_off hn]
theorem newB_all {S T : Nat → Bool} {l : Nat} {B : Blk} : ∀ {W : Wr}, (∀ e ∈ W, S e.1 = T e.1) → newB W S l B = newB W T l B
  | [], _ => rfl
  | e :: r, h => by simp only [newB]; rw [h e (by simp), newB_all fun x hx => h x (List.mem_cons_of_mem _ hx)]
theorem hW_all {W : Wr} {S T : Nat → Bool} {h : List (Nat × Blk)} (hn : ∀ e ∈ W, S e.1 = T e.1) : hW W S h = hW W T h := by
  unfold hW; congr 1; funext p; rw [newB_all hn]
theorem hW_nil (S : Nat → Bool) (h : List (Nat × Blk)) : hW [] S h = h := by
  unfold hW
  have : (fun p : Nat × Blk => (p.1, newB [] S p.1 p.2)) = id := by funext p; rfl
  rw [this]; simp
theorem hW_none {W : Wr} {h : List (Nat × Blk)} : hW W (fun _ => false) h = h := by
  have key : ∀ (W : Wr) l B, newB W (fun _ => false) l B = B := by
    intro W l B
    induction W with
    | nil => rfl
    | cons e r ih => simp only [newB]; split <;> simp [ih]
  unfold hW
  have : (fun p : Nat × Blk => (p.1, newB W (fun _ => false) p.1 p.2)) = id := by funext p; simp [key]
  rw [this]; simp
theorem newB_at {S : Nat → Bool} {i l : Nat} {B' : Blk} : ∀ {W : Wr}, okW W = true → (i, l, B') ∈ W → ∀ B, (S i = false → newB W S l B = B) ∧ (S i = true → newB W S l B = B')
  | [], _, h, _ => by cases h
  | e :: r, ok, h, B => by
    simp only [okW, Bool.and_eq_true, List.all_eq_true, decide_eq_true_eq] at ok
    rcases List.mem_cons.1 h with rfl | h
    · simp only [newB, if_true]
      exact ⟨fun h => by rw [h]; simp, fun h => by rw [h]; simp⟩
    · have := (ok.1 _ h).2
      simp only [newB]
      rw [if_neg fun e' => this e'.symm]
      exact newB_at ok.2 h B
theorem newB_else {S : Nat → Bool} {i l k : Nat} {B' B : Blk} : ∀ {W : Wr}, okW W = true → (i, l, B') ∈ W → k ≠ l → newB W (upd S i) k B = newB W S k B
  | [], _, h, _ => by cases h
  | e :: r, ok, h, hk => by
    simp only [okW, Bool.and_eq_true, List.all_eq_true, decide_eq_true_eq] at ok
    rcases List.mem_cons.1 h with rfl | h
    · simp only [newB]
      rw [if_neg fun e => hk e.symm, if_neg fun e => hk e.symm]
      exact newB_off fun x hx => (ok.1 x hx).1
    · have h1 := (ok.1 _ h).1
      simp only [newB]
      have : upd S i e.1 = S e.1 := by
        have h2 : ¬ e.1 = i := fun e' => h1 e'.symm
        simp [upd, h2]
      rw [this, newB_else ok.2 h hk]
theorem get?_hW {W : Wr} {S : Nat → Bool} {l : Nat} : ∀ {h : List (Nat × Blk)}, get? l (hW W S h) = (get? l h).map (newB W S l)
  | [] => rfl
  | (k, B) :: r => by
    have ih := get?_hW (W := W) (S := S) (l := l) (h := r)
    simp only [hW, List.map_cons, get?] at ih ⊢
    by_cases e : k = l
    · subst e; simp
    · rw [if_neg e, if_neg e]; exact ih
theorem mem_ins_other {α : Type} {k : Nat} {v : α} {p : Nat × α} (hk : p.1 ≠ k) : ∀ {l : List (Nat × α)}, p ∈ l → p ∈ ins k v l
  | [], h => by cases h
  | (j, x) :: r, h => by
    have hd : ∀ {l : List (Nat × α)}, p ∈ l → p ∈ del k l := by
      intro l
      induction l with
      | nil => intro h; cases h
      | cons q l ih =>
        obtain ⟨j, x⟩ := q
        intro h
        simp only [del]
        rcases List.mem_cons.1 h with rfl | h
        · rw [if_neg hk]; simp
        · split
          · exact ih h
          · exact List.mem_cons_of_mem _ (ih h)
    simp only [ins]
    rcases List.mem_cons.1 h with rfl | h
    · rw [if_neg hk]
      split <;> simp
    · split
      · exact List.mem_cons_of_mem _ (hd h)
      · split
        · exact List.mem_cons_of_mem _ (List.mem_cons_of_mem _ (hd h))
        · exact List.mem_cons_of_mem _ (mem_ins_other hk h)
theorem hW_ins {W : Wr} {S : Nat → Bool} {i l : Nat} {B' : Blk} {h : List (Nat × Blk)} (ok : okW W = true) (hm : (i, l, B') ∈ W) : ∀ p ∈ hW W (upd S i) h, p = (l, B') ∨ (p.1 ≠ l ∧ p ∈ hW W S h) := by
  intro p hp
  obtain ⟨q, hq, rfl⟩ := List.mem_map.1 hp
  by_cases e : q.1 = l
  · left
    rw [e]
    have := ((newB_at (S := upd S i) ok hm q.2).2 (by simp [upd]))
    rw [this]
  · right
    refine ⟨e, List.mem_map.2 ⟨q, hq, ?_⟩⟩
    rw [newB_else ok hm e]
theorem get?_append_none {α : Type} {l : Nat} : ∀ {a b : List (Nat × α)}, (∀ C, (l, C) ∉ a) → get? l (a ++ b) = get? l b
  | [], b, _ => rfl
  | (k, x) :: a, b, h => by
    have : k ≠ l := fun e => h x (by simp [e])
    simp only [List.cons_append, get?, if_neg this]
    exact get?_append_none fun C hC => h C (List.mem_cons_of_mem _ hC)
/-- a write among what may stand in any order -/
def SFact (P : Program) (st : St) (W : Wr) (ops : Array Oper) (os : List Oper) (vs : List (AV × Option Blk)) (i : Nat) (o : Oper) (v : AV × Option Blk) : Prop :=
  o.dst = none ∧ v = (.dead, none) ∧ ∃ L, LateOk st os i L ∧ gOk ops (dViewL ⟨st.n, st.t, hV W st.h⟩ os vs L o) o = some true ∧
    ∃ t x y l off u B z, o.op = .store t x y ∧ (dViewL ⟨st.n, st.t, hV W st.h⟩ os vs L o).eval x = some (.ptr l off) ∧ (dViewL ⟨st.n, st.t, hV W st.h⟩ os vs L o).eval y = some u ∧ get? l st.h = some B ∧ tSz P t = some z ∧
      (u.fits = true ∧ u.cells.length = z ∧ 0 < z ∧ off + z ≤ B.cs.length ∧ (B.boxy = false → frees u.cells = true)) ∧ (i, l, { B with cs := splice off u.cells B.cs }) ∈ W
def DFactW (P : Program) (st : St) (W : Wr) (ops : Array Oper) (os : List Oper) (vs : List (AV × Option Blk)) (i : Nat) (o : Oper) (v : AV × Option Blk) : Prop :=
  ((∀ e ∈ W, e.1 ≠ i) ∧ DFact P ⟨st.n, st.t, hV W st.h⟩ ops os vs i o v) ∨ SFact P st W ops os vs i o v

theorem draw_step2 {P : Program} {ops : Array Oper} {st : St} {os : List Oper} {vs : List (AV × Option Blk)} {S : Nat → Bool} {ρ : Rho} {F : Nat → Prop} {a : Act} {w : World} {i : Nat} {o : Oper} {v : AV × Option Blk}
    (hnd : (dsts os).Nodup) (hno : ∀ (j : Nat) (o' : Oper) (v' : AV × Option Blk) (d : Tmp), os[j]? = some o' → vs[j]? = some v' → o'.dst = some d → v'.2.isSome = true → ∀ C, (lab d, C) ∉ st.h)
    (ho' : ops[i]? = some o) (ho : os[i]? = some o) (hv : vs[i]? = some v) (hS : S i = false) (hp : ∀ j ∈ dpreds o, S j = true) (hcl0 : ∀ (j : Nat) (o' : Oper), os[j]? = some o' → S j = true → ∀ k ∈ dpreds o', S k = true) {h2 : List (Nat × Blk)} (h2h : ∀ p ∈ h2, p ∈ st.h) (hfact : DFact P ⟨st.n, st.t, h2⟩ ops os vs i o v) (hI : Inv st os vs S ρ F a w)
    {N : Act → World → Prop} {Q : Exit → Act → World → Prop} (hN : ∀ ρ' F' a' w', Inv st os vs (upd S i) ρ' F' a' w' → Fr ρ F w ρ' F' w' → N a' w') : wpOp P ops Q i N a w := by
  obtain ⟨hdn, L, hL, hfact⟩ := hfact
  have hvw : Rel ρ F (dViewL ⟨st.n, st.t, h2⟩ os vs L o) a w := hI.rel.subset rfl (by
    intro p hp'
    simp only [dViewL, dSt, List.mem_append] at hp' ⊢
    rcases hp' with h | h | h
    · obtain ⟨j, o', v', h1, h2, h3, h4, h5⟩ := mem_partT.1 h
      refine .inl (mem_partT.2 ⟨j, o', v', h1, h2, ?_, h4, h5⟩)
      rw [Nat.zero_add] at h3 ⊢
      exact hp j (by simpa using h3)
    · refine .inr (mem_dropTs' (hL p h).1 fun hm => ?_)
      obtain ⟨j, o', h1, h2, h3⟩ := mem_dstsS.1 hm
      rw [Nat.zero_add] at h2
      have := hcl0 j o' h1 h2 i ((hL p h).2 j o' h1 h3)
      rw [hS] at this; cases this
    · have h' := mem_dropTs h
      refine .inr (mem_dropTs' h'.1 fun hm => h'.2 ?_)
      obtain ⟨j, o', h1, h2, h3⟩ := mem_dstsS.1 hm
      exact dsts_mem h1 h3) (by intro p hp'; simp only [dViewL, dSt, List.mem_append] at hp' ⊢; exact .inr (h2h p hp'))
  have hnew' : ∀ (ρ' : Rho), (∀ l, (∀ d, o.dst = some d → v.2.isSome = true → l ≠ lab d) → ρ' l = ρ l) → ∀ (j : Nat) (o' : Oper) (v' : AV × Option Blk) (d : Tmp), os[j]? = some o' → vs[j]? = some v' → upd S i j = false → o'.dst = some d → v'.2.isSome = true → ρ' (lab d) = none := by
    intro ρ' hρ j o' v' d h1 h2 h3 h4 h5
    simp only [upd, Bool.or_eq_false_iff, beq_eq_false_iff_ne, ne_eq] at h3
    rw [hρ (lab d) ?_]
    · exact hI.new j o' v' d h1 h2 h3.1 h4 h5
    · intro d' hd' _ e
      have := lab_inj e
      subst this
      exact h3.2 (dsts_inj hnd h1 ho h4 hd')
  have hother : ∀ (d : Tmp), o.dst = some d → v.2.isSome = true → ∀ C, (lab d, C) ∉ (dSt st os vs S).h := by
    intro d hd hb C hC
    simp only [dSt, List.mem_append] at hC
    rcases hC with hC | hC
    · obtain ⟨j, o', v', d', h1, h2, h3, h4, h5, h6⟩ := mem_partH.1 hC
      have := lab_inj h5
      subst this
      have := dsts_inj hnd h1 ho h4 hd
      subst this
      rw [Nat.zero_add, hS] at h3
      cases h3
    · exact hno i o v d ho hv hd hb C hC
  -- nothing is made
  have plain : ∀ {u : Value}, v.2 = none → VR ρ F w v.1 u → N (a.put o.dst u) w := by
    intro u hv2 hu
    refine hN ρ F _ w (Inv.finish hnd ho hv hdn (hI.rel.subset rfl (fun _ h => h) ?_) hu (hnew' ρ fun _ _ => rfl)) (Fr.refl _ _ _)
    intro p hp'
    cases hd : o.dst <;> simpa [bentry?, hv2, hd] using hp'
  rcases hfact with ⟨hg, rfl⟩ | ⟨hg, hfact⟩
  · have hw := gOk_rel hvw hg
    simp only [wpOp, ho', hw, Bool.false_eq_true, if_false]
    exact plain rfl (by simp only [VR]; rfl)
  · have hw := gOk_rel hvw hg
    simp only [wpOp, ho', hw, if_true]
    refine .inl ?_
    rcases hfact with hd | ⟨g, as, hc, hcl, hv2, hF⟩
    · unfold dEval at hd
      split at hd
      · rename_i e d hop hdst
        simp only [Option.bind_eq_some_iff] at hd
        obtain ⟨zs, hz, hd⟩ := hd
        split at hd
        · rename_i hone
          cases hd
          obtain ⟨zv, hr, rfl⟩ := run_tZero (w := w) hz
          have hrun : (execOp a.eval o).run P w = .ok (.value (.pointer (some ⟨w.heap.size, 0, none⟩))) (w.alloc (.cells zv.cells e)) := by
            simp [execOp, hop, Instr.alloc, hr, newVar, newRow]
          simp only [Oper.wp, hrun, Oper.upon]
          have hL := hI.new i o _ d ho hv hS hdst rfl
          obtain ⟨hA, hFr⟩ := hI.rel.add (Grew.alloc w zv.cells e) hL (hother d hdst rfl) (by simp [lab]) (B := ⟨e, true, zv.cells.toList.map .val⟩) rfl (vs := zv.cells.toList) (vals_get _) (by simp) (by
            intro j u hu
            exact ⟨by simpa using hu, List.all_eq_true.1 hone u (List.mem_of_getElem? hu)⟩)
          refine hN _ F _ _ (Inv.finish hnd ho hv hdn (hA.subset rfl (fun _ h => h) (by intro p hp'; simpa [bentry?, hdst] using hp')) ?_ (hnew' _ ?_)) hFr
          · simp only [VR]; exact ⟨_, _, by simp [rset]; rfl, rfl⟩
          · intro l hl; simp only [rset]; rw [if_neg (hl d hdst rfl)]
        · cases hd
      · rename_i t l c d hop hdst
        simp only [Option.bind_eq_some_iff, Option.map_eq_some_iff] at hd
        obtain ⟨lv, hlv, cv, hcv, li, hli, ci, hci, ⟨e, z, cs⟩, hmk, rfl⟩ := hd
        obtain ⟨kl, hkl⟩ := intOf_rel hli (hvw.get hlv)
        obtain ⟨kc, hkc⟩ := intOf_rel hci (hvw.get hcv)
        obtain ⟨u, w', hr, hms⟩ := cMake_run (kl := kl) (kc := kc) F w hmk
        obtain ⟨cap, arr, us, rfl, hgr, hvu, hle, hcc, h1, h2, h3⟩ := hms.is
        have hrun : (execOp a.eval o).run P w = .ok (.value (.slice (some ⟨w.heap.size, 0, none⟩) li.toNat cap)) w' := by
          simp only [execOp, hop, hkl, hkc, Sem.run_bind, hr, Result.andThen, Sem.run_pure]
        simp only [Oper.wp, hrun, Oper.upon]
        have hL := hI.new i o _ d ho hv hS hdst rfl
        obtain ⟨hA, hFr⟩ := hI.rel.add hgr hL (hother d hdst rfl) (by simp [lab]) (B := ⟨e, false, cs⟩) rfl (vs := us) hvu hle hcc
        refine hN _ F _ _ (Inv.finish hnd ho hv hdn (hA.subset rfl (fun _ h => h) (by intro p hp'; simpa [bentry?, hdst] using hp')) ?_ (hnew' _ ?_)) hFr
        · simp only [VR]; exact .inl ⟨w.heap.size, _, cap, by simp [rset]; rfl, rfl, h1, by simpa using h2, h3⟩
        · intro l hl; simp only [rset]; rw [if_neg (hl d hdst rfl)]
      · rename_i t n ps d hop hdst
        simp only [Option.bind_eq_some_iff] at hd
        obtain ⟨pvs, hpv, hd⟩ := hd
        split at hd
        · rename_i hf
          simp only [Option.map_eq_some_iff] at hd
          obtain ⟨⟨e, z, cs⟩, hcb, rfl⟩ := hd
          obtain ⟨u, w', hr, hms⟩ := cBuild_run hvw hpv hf hcb
          obtain ⟨cap, arr, us, rfl, hgr, hvu, hle, hcc, h1, h2, h3⟩ := hms.is
          have hrun : (execOp a.eval o).run P w = .ok (.value (.slice (some ⟨w.heap.size, 0, none⟩) n cap)) w' := by
            simp only [execOp, hop, Sem.run_bind, hr, Result.andThen, Sem.run_pure]
          simp only [Oper.wp, hrun, Oper.upon]
          -- the new block is frozen
          have hf0 : Fr (fun _ => none) F w (fun _ => none) (fun b => F b ∨ b = w.heap.size) w' := {
            os := hgr.os, tape := hgr.tape, output := hgr.output, size := by rw [hgr.size]; omega
            block := fun k hk _ => hgr.old hk, froz := fun b hb => .inl hb
            froz' := fun b hb => by rcases hb with hb | rfl; exact .inl hb; exact .inr (.inr (Nat.le_refl _))
            own := fun _ _ _ h => by cases h
            same := fun _ _ _ _ h => by cases h
            gone := fun _ _ h => h }
          obtain ⟨hA, hFr⟩ := hI.rel.ext hf0 (by intro b hb; rw [hgr.size]; rcases hb with hb | rfl; have := hI.rel.heap.flt b hb; omega; omega)
          refine hN _ _ _ _ (Inv.finish hnd ho hv hdn (hA.subset rfl (fun _ h => h) (by intro p hp'; simpa [bentry?, hdst] using hp')) ?_ (hnew' _ fun _ _ => rfl)) hFr
          simp only [VR]
          refine ⟨_, cap, us, rfl, h1, h3, VRs.keep (fun b hb => .inl hb) (fun b off v _ h => hgr.cell h) (fun _ _ h => h) _ _ hvu, ?_, by simp, by intro a h _; cases h; rfl⟩
          refine .inr ⟨_, _, rfl, .inr rfl, ?_⟩
          intro j u hu
          obtain ⟨h4, h5⟩ := hcc j u hu
          exact ⟨by rw [hgr.new.cell]; simpa using h4, h5⟩
        · cases hd
      · simp only [Option.map_eq_some_iff] at hd
        obtain ⟨v0, hpv, rfl⟩ := hd
        obtain ⟨u, hr, hvr⟩ := pureOp_run hvw hpv
        simp only [Oper.wp, hr, Oper.upon]
        exact plain rfl hvr
    · obtain ⟨xs, hrun, hxs⟩ := callOf_run hvw hc hcl
      simp only [Oper.wp, hrun, Oper.upon]
      refine (hF.run hvw.heap hxs).mono ?_
      rintro e w' ⟨u, ρ', F', rfl, hvr, hfr', hlt⟩
      obtain ⟨hA, hFr⟩ := hI.rel.ext hfr' hlt
      refine hN ρ F' _ w' (Inv.finish hnd ho hv hdn (hA.subset rfl (fun _ h => h) ?_) (hvr _) (hnew' ρ fun _ _ => rfl)) hFr
      intro p hp'
      cases hd : o.dst <;> simpa [bentry?, hv2, hd] using hp'


theorem store_step {P : Program} {ops : Array Oper} {st : St} {W : Wr} {os : List Oper} {vs : List (AV × Option Blk)} {S : Nat → Bool} {ρ : Rho} {F : Nat → Prop} {a : Act} {w : World} {i : Nat} {o : Oper} {v : AV × Option Blk}
    (ok : okW W = true) (hnd : (dsts os).Nodup) (hno : ∀ (j : Nat) (o' : Oper) (v' : AV × Option Blk) (d : Tmp), os[j]? = some o' → vs[j]? = some v' → o'.dst = some d → v'.2.isSome = true → ∀ C, (lab d, C) ∉ st.h)
    (ho' : ops[i]? = some o) (ho : os[i]? = some o) (hv : vs[i]? = some v) (hS : S i = false) (hp : ∀ j ∈ dpreds o, S j = true) (hcl0 : ∀ (j : Nat) (o' : Oper), os[j]? = some o' → S j = true → ∀ k ∈ dpreds o', S k = true) (hfact : SFact P st W ops os vs i o v) (hI : Inv ⟨st.n, st.t, hW W S st.h⟩ os vs S ρ F a w)
    {N : Act → World → Prop} {Q : Exit → Act → World → Prop} (hN : ∀ ρ' F' a' w', Inv ⟨st.n, st.t, hW W (upd S i) st.h⟩ os vs (upd S i) ρ' F' a' w' → Fr ρ F w ρ' F' w' → N a' w') : wpOp P ops Q i N a w := by
  obtain ⟨hdst, rfl, L, hL, hg, t, x, y, l, off, u, B, z, hop, hx, hy, hB, hz, hc, hm⟩ := hfact
  have hvw : Rel ρ F (dViewL ⟨st.n, st.t, hV W st.h⟩ os vs L o) a w := hI.rel.subset rfl (by
    intro p hp'
    simp only [dViewL, dSt, List.mem_append] at hp' ⊢
    rcases hp' with h | h | h
    · obtain ⟨j, o', v', h1, h2, h3, h4, h5⟩ := mem_partT.1 h
      refine .inl (mem_partT.2 ⟨j, o', v', h1, h2, ?_, h4, h5⟩)
      rw [Nat.zero_add] at h3 ⊢
      exact hp j (by simpa using h3)
    · refine .inr (mem_dropTs' (hL p h).1 fun hm => ?_)
      obtain ⟨j, o', h1, h2, h3⟩ := mem_dstsS.1 hm
      rw [Nat.zero_add] at h2
      have := hcl0 j o' h1 h2 i ((hL p h).2 j o' h1 h3)
      rw [hS] at this; cases this
    · have h' := mem_dropTs h
      refine .inr (mem_dropTs' h'.1 fun hm => h'.2 ?_)
      obtain ⟨j, o', h1, h2, h3⟩ := mem_dstsS.1 hm
      exact dsts_mem h1 h3) (by intro p hp'; simp only [dViewL, dSt, List.mem_append] at hp' ⊢; exact .inr (hV_sub p hp'))
  have hw := gOk_rel hvw hg
  simp only [wpOp, ho', hw, if_true]
  refine .inl ?_
  have hgl : get? l (dSt ⟨st.n, st.t, hW W S st.h⟩ os vs S).h = some B := by
    show get? l (partH S 0 os vs ++ hW W S st.h) = some B
    rw [get?_append_none, get?_hW, hB, Option.map_some, (newB_at ok hm B).1 hS]
    intro C hC
    obtain ⟨j, o', v', d, h1, h2, h3, h4, h5, h6⟩ := mem_partH.1 hC
    subst h5
    exact hno j o' v' d h1 h2 h4 (by rw [h6]; rfl) _ (get?_mem hB)
  have hst : aStore P (dSt ⟨st.n, st.t, hW W S st.h⟩ os vs S) t (.ptr l off) u = some { (dSt ⟨st.n, st.t, hW W S st.h⟩ os vs S) with h := ins l { B with cs := splice off u.cells B.cs } (dSt ⟨st.n, st.t, hW W S st.h⟩ os vs S).h } := by
    simp only [aStore, hz, hgl, Option.bind_some]
    rw [if_pos hc]
  obtain ⟨w', hr, hR', hF⟩ := aStore_run hI.rel (hvw.get hx) (hvw.get hy) hst
  have hrun : (execOp a.eval o).run P w = .ok (.value undef) w' ∨ ∃ q, (execOp a.eval o).run P w = .ok q w' ∧ True := by
    right; simp [execOp, hop, hr]
  have hfin := Inv.finish (st := ⟨st.n, st.t, hW W (upd S i) st.h⟩) (u := undef) hnd ho hv (by rw [hdst]; rfl) (hR'.subset rfl (fun _ h => h) (by
    intro p hp'
    simp only [hdst, bentry?, List.nil_append] at hp'
    have hp' : p ∈ partH S 0 os vs ++ hW W (upd S i) st.h := hp'
    rcases List.mem_append.1 hp' with h | h
    · refine mem_ins_other ?_ (List.mem_append.2 (.inl h))
      obtain ⟨j, o', v', d, h1, h2, h3, h4, h5, h6⟩ := mem_partH.1 h
      intro e
      rw [e] at h5
      exact hno j o' v' d h1 h2 h4 (by rw [h6]; rfl) B (by rw [h5]; exact get?_mem hB)
    · rcases hW_ins ok hm p h with rfl | ⟨hne, h⟩
      · exact mem_ins_self _ _ _
      · exact mem_ins_other hne (List.mem_append.2 (.inr h)))) (by simp only [VR]) (by
    intro j o' v' d h1 h2 h3 h4 h5
    simp only [upd, Bool.or_eq_false_iff] at h3
    exact hI.new j o' v' d h1 h2 h3.1 h4 h5)
  have := hN _ _ _ _ hfin hF
  rw [hdst] at this
  simpa [execOp, hop, hr, Oper.wp, Oper.upon, hdst] using this

theorem draw_anyW {P : Program} {ops : Array Oper} {st : St} {os : List Oper} {vs : List (AV × Option Blk)} {m : Nat} {K : St → Prop} {Q : Exit → Act → World → Prop} {ρ0 : Rho} {F0 : Nat → Prop} {w0 : World}
    {W : Wr} (ok : okW W = true) (hWm : ∀ e ∈ W, e.1 < m) (hos : os = ops.toList.take m) (hm : m ≤ ops.size) (hvl : vs.length = m) (ht : tailOk ops m = true) (hnd : (dsts os).Nodup)
    (hno : ∀ (j : Nat) (o' : Oper) (v' : AV × Option Blk) (d : Tmp), os[j]? = some o' → vs[j]? = some v' → o'.dst = some d → v'.2.isSome = true → ∀ C, (lab d, C) ∉ st.h)
    (hfact : ∀ (i : Nat) (o : Oper) (v : AV × Option Blk), os[i]? = some o → vs[i]? = some v → DFactW P st W ops os vs i o v)
    (hT : AOps P ops (List.range' m (ops.size - m)) K (dSt ⟨st.n, st.t, hW W (fun _ => true) st.h⟩ os vs fun _ => true))
    (hQ : ∀ st' ρ' F' a' w', K st' → Rel ρ' F' st' a' w' → Fr ρ0 F0 w0 ρ' F' w' → Q .normal a' w') :
    ∀ (fuel : Nat) {listed : Array Bool} {a : Act} {w : World} {ρ : Rho} {F : Nat → Prop}, listed.size = ops.size → unl listed.toList = fuel → Closed ops (ls listed) → (∀ i, ls listed i = true → i < m) →
      Inv ⟨st.n, st.t, hW W (ls listed) st.h⟩ os vs (ls listed) ρ F a w → Fr ρ0 F0 w0 ρ F w → wpAny P .any ops Q fuel listed a w := by
  have hedge : ∀ (i : Nat) (o : Oper), ops[i]? = some o → ∀ j ∈ dpreds o, j < i := by
    intro i o ho j hj
    simp only [tailOk, Bool.and_eq_true] at ht
    have := edgesOk_lt ht.1 i o (by rw [Array.getElem?_toList]; exact ho) j hj
    omega
  have hosget : ∀ i, i < m → os[i]? = ops[i]? := by
    intro i hi; rw [hos, List.getElem?_take, if_pos hi, Array.getElem?_toList]
  -- all ahead of the tail is done
  have full : ∀ (fuel : Nat) {listed : Array Bool} {a : Act} {w : World} {ρ : Rho} {F : Nat → Prop}, listed.size = ops.size → unl listed.toList = fuel → (∀ i, ls listed i = decide (i < m)) →
      Inv ⟨st.n, st.t, hW W (ls listed) st.h⟩ os vs (ls listed) ρ F a w → Fr ρ0 F0 w0 ρ F w → wpAny P .any ops Q fuel listed a w := by
    intro fuel listed a w ρ F hs hu hl hI hFr
    have hfuel : fuel = ops.size - m := by
      have key : ∀ (l : List Bool) (s : Nat), (∀ (i : Nat) b, l[i]? = some b → b = decide (s + i < m)) → unl l = (s + l.length - m) - (s - m) := by
        intro l
        induction l with
        | nil => intro s _; simp [unl]
        | cons b l ih =>
          intro s h
          have h0 := h 0 b (by simp)
          have h1 := ih (s + 1) (fun i b hb => by have := h (i + 1) b (by simpa using hb); rw [this]; congr 1; apply propext; constructor <;> intro <;> omega)
          simp only [unl, h1, List.length_cons]
          rw [h0]
          by_cases hsm : s + 0 < m
          · rw [if_pos (by simpa using hsm)]; omega
          · rw [if_neg (by simpa using hsm)]; omega
      have := key listed.toList 0 (by
        intro i b hb
        have h1 := hl i
        have hlt : i < listed.size := by have := (List.getElem?_eq_some_iff.1 hb).1; simpa using this
        rw [Nat.zero_add, ← h1]
        simp only [ls, Array.getD_eq_getD_getElem?, ← Array.getElem?_toList, hb]; rfl)
      rw [hu] at this
      simp at this; omega
    subst hfuel
    refine tail_any ht _ (k := m) hs (Nat.le_refl _) (by omega) hl ?_
    refine hT ρ F a w Q (hI.rel.subset rfl ?_ ?_) (fun st' ρ' F' a' w' h1 h2 h3 => hQ st' ρ' F' a' w' h1 h2 (hFr.trans h3))
    · intro p hp
      simp only [dSt, List.mem_append] at hp ⊢
      rcases hp with hp | hp
      · obtain ⟨i, o, v, h1, h2, _, h4, h5⟩ := mem_partT.1 hp
        refine .inl (mem_partT.2 ⟨i, o, v, h1, h2, ?_, h4, h5⟩)
        have := (List.getElem?_eq_some_iff.1 h2).1
        rw [hl]; simp; omega
      · have hp' := mem_dropTs hp
        refine .inr (mem_dropTs' hp'.1 fun hm => hp'.2 ?_)
        obtain ⟨j, o', h1, h2, h3⟩ := mem_dstsS.1 hm
        exact mem_dstsS.2 ⟨j, o', h1, rfl, h3⟩
    · intro p hp
      simp only [dSt, List.mem_append] at hp ⊢
      rcases hp with hp | hp
      · obtain ⟨i, o, v, d, h1, h2, _, h4, h5⟩ := mem_partH.1 hp
        refine .inl (mem_partH.2 ⟨i, o, v, d, h1, h2, ?_, h4, h5⟩)
        have := (List.getElem?_eq_some_iff.1 h2).1
        rw [hl]; simp; omega
      · refine .inr ?_
        rw [hW_all (T := fun _ => true)]
        · exact hp
        · intro e he; rw [hl]; simp [hWm e he]
  intro fuel
  induction fuel with
  | zero =>
    intro listed a w ρ F hs hu hc hlm hI hFr
    refine full 0 hs hu ?_ hI hFr
    intro i
    cases hli : ls listed i with
    | true => have := hlm i hli; simp [this]
    | false =>
      by_cases him : i < m
      · exfalso
        have hlt : i < listed.size := by omega
        have hb : listed.toList[i]? = some listed[i] := by simp [hlt]
        have := unl_zero hu i _ hb
        simp only [ls, Array.getD_eq_getD_getElem?, Array.getElem?_eq_getElem hlt] at hli
        rw [this] at hli
        simp at hli
      · simp [him]
  | succ fuel ih =>
    intro listed a w ρ F hs hu hc hlm hI hFr
    by_cases hfull : ∀ i, ls listed i = decide (i < m)
    · exact full _ hs hu hfull hI hFr
    · obtain ⟨i0, h1, h2⟩ := unl_pos (l := listed.toList) (by omega)
      have hi0 : i0 < listed.size := by have := (List.getElem?_eq_some_iff.1 h1).1; simpa using this
      have hls : ∀ (i : Nat) b, listed.toList[i]? = some b → ls listed i = b := by
        intro i b hb; simp only [ls, Array.getD_eq_getD_getElem?, ← Array.getElem?_toList, hb]; rfl
      obtain ⟨o0, ho0⟩ : ∃ o, ops[i0]? = some o := ⟨_, Array.getElem?_eq_getElem (by omega)⟩
      have hr0 : i0 ∈ Region.ready .any ops listed := (ready_iff hs).2 ⟨o0, ho0, hls _ _ h1, fun j hj => hls _ _ (h2 j (hedge i0 o0 ho0 j hj))⟩
      refine ⟨fun h0 => (by rw [h0] at hr0; cases hr0), ?_⟩
      intro i hi
      obtain ⟨o, ho, hli, hp⟩ := (ready_iff hs).1 hi
      have him : i < m := by
        rcases Nat.lt_or_ge i m with h | h
        · exact h
        · exfalso
          apply hfull
          have h3 := tail_all ht hc ho h hp
          intro j
          cases hlj : ls listed j with
          | true => have := hlm j hlj; simp [this]
          | false =>
            by_cases hjm : j < m
            · have := h3 j (by omega); rw [hlj] at this; cases this
            · simp [hjm]
      have hoi : os[i]? = some o := by rw [hosget i him]; exact ho
      obtain ⟨v, hv⟩ : ∃ v, vs[i]? = some v := ⟨_, List.getElem?_eq_getElem (by omega)⟩
      have hcl1 : ∀ (j : Nat) (o' : Oper), os[j]? = some o' → ls listed j = true → ∀ k ∈ dpreds o', ls listed k = true := fun j o' h1 h2 => hc j o' (by
        have hjm : j < m := by
          rw [hos, List.getElem?_take] at h1
          split at h1
          · assumption
          · cases h1
        rw [← hosget j hjm]; exact h1) h2
      have next : ∀ ρ' F' a' w', Inv ⟨st.n, st.t, hW W (upd (ls listed) i) st.h⟩ os vs (upd (ls listed) i) ρ' F' a' w' → Fr ρ F w ρ' F' w' → wpAny P .any ops Q fuel (listed.setIfInBounds i true) a' w' := by
        intro ρ' F' a' w' hI' hFr'
        have hlt : i < listed.size := by have := (Array.getElem?_eq_some_iff.1 ho).1; omega
        have hset := ls_set hlt
        refine ih (by simpa using hs) ?_ ?_ ?_ (by rw [hset]; exact hI') (hFr.trans hFr')
        · have hb : listed.toList[i]? = some false := by
            have h9 : listed.toList[i]? = some listed[i] := by simp [hlt]
            rw [h9]; congr 1
            have := hls i _ h9
            rw [← this]; exact hli
          have := unl_set hb
          simp only [Array.toList_setIfInBounds]
          omega
        · rw [hset]
          intro j o' ho' hj k hk
          simp only [upd, Bool.or_eq_true, beq_iff_eq] at hj ⊢
          rcases hj with hj | rfl
          · exact .inl (hc j o' ho' hj k hk)
          · rw [ho] at ho'; cases ho'; exact .inl (hp k hk)
        · rw [hset]
          intro j hj
          simp only [upd, Bool.or_eq_true, beq_iff_eq] at hj
          rcases hj with hj | rfl
          · exact hlm j hj
          · exact him
      rcases hfact i o v hoi hv with ⟨hni, hf⟩ | hf
      · refine draw_step2 (st := ⟨st.n, st.t, hW W (ls listed) st.h⟩) (h2 := hV W st.h) hnd (fun j o' v' d h1 h2 h3 h4 => hW_key (hno j o' v' d h1 h2 h3 h4)) ho hoi hv hli hp hcl1 hV_sub hf hI ?_
        intro ρ' F' a' w' hI' hFr'
        refine next ρ' F' a' w' ?_ hFr'
        rw [hW_off hni]
        exact hI'
      · exact store_step ok hnd hno ho hoi hv hli hp hcl1 hf hI next


theorem AW.drawW {P : Program} {id : Nat} {ops : Array Oper} {K : Exit → St → Prop} {st : St} (hmix : P.follows .mixedOrders = true) {W : Wr} (ok : okW W = true) (m : Nat) (hWm : ∀ e ∈ W, e.1 < m) (Ls : List Nat) (vs : List (AV × Option Blk)) (hm : m ≤ ops.size) (hvl : vs.length = m) (ht : tailOk ops m = true)
    (hnd : (dsts (ops.toList.take m)).Nodup) (hLs : ∀ l ∈ newLs (ops.toList.take m) vs, l ∈ Ls)
    (hfact : ∀ (i : Nat) (o : Oper) (v : AV × Option Blk), (ops.toList.take m)[i]? = some o → vs[i]? = some v → DFactW P (st.drops Ls) W ops (ops.toList.take m) vs i o v)
    (hT : AOps P ops (List.range' m (ops.size - m)) (K .normal) (dSt ⟨(st.drops Ls).n, (st.drops Ls).t, hW W (fun _ => true) (st.drops Ls).h⟩ (ops.toList.take m) vs fun _ => true)) : AW P (.region id ops true) K st := by
  intro ρ F a w Q hR hQ
  have hR1 := Rel.drops Ls hR
  have hF1 := Fr.drops (F := F) (w := w) Ls ρ
  refine wp_region_any hmix ?_
  -- one answer drawn
  have hw1 : Rel (rdels ρ Ls) F (st.drops Ls) a { w with drawn := w.drawn + 1 } :=
    ⟨⟨fun l B hB => by
        rcases hR1.heap.blk l B hB with h | ⟨r, m, c, h1, h2, h3, us, h4, h5⟩
        · exact .inl h
        · exact .inr ⟨r, m, c, h1, h2, h3, us, VRs.keep (w := w) (w' := { w with drawn := w.drawn + 1 }) (fun _ h => h) (fun _ _ _ _ h => h) (fun _ _ h => h) _ _ h4, h5⟩, hR1.heap.inj, hR1.heap.apart, hR1.heap.lt, hR1.heap.flt, hR1.heap.glb⟩, hR1.size, hR1.defers,
      fun t v hv => ⟨(hR1.tmps t v hv).1, VR.keep (w := w) (w' := { w with drawn := w.drawn + 1 }) (fun _ h => h) (fun _ _ _ _ h => h) (fun _ _ h => h) _ _ (hR1.tmps t v hv).2⟩⟩
  have hFd : Fr ρ F w (rdels ρ Ls) F { w with drawn := w.drawn + 1 } :=
    ⟨rfl, rfl, rfl, Nat.le_refl _, fun _ _ _ => rfl, hF1.froz, hF1.froz', hF1.own, hF1.same, hF1.gone⟩
  refine draw_anyW (st := st.drops Ls) (K := K .normal) (ρ0 := ρ) (F0 := F) (w0 := w) ok hWm rfl hm hvl ht hnd ?_ hfact hT (fun st' ρ' F' a' w' h1 h2 h3 => hQ _ st' ρ' F' a' w' h1 h2 h3) ops.size (ρ := rdels ρ Ls) (F := F) (by simp) ?_ ?_ ?_ ?_ hFd
  · intro j o' v' d h1 h2 h3 h4
    exact drops_h (.inl (hLs _ (newLs_mem h1 h2 h3 h4)))
  · have : ∀ n, unl (List.replicate n false) = n := by
      intro n; induction n with
      | zero => rfl
      | succ n ih => simp [List.replicate_succ, unl, ih, Nat.add_comm]
    simp [this]
  · intro i o ho hi
    simp [ls, Array.getD_eq_getD_getElem?, Array.getElem?_replicate] at hi
    split at hi <;> simp at hi
  · intro i hi
    simp [ls, Array.getD_eq_getD_getElem?, Array.getElem?_replicate] at hi
    split at hi <;> simp at hi
  · have hf : ls (Array.replicate ops.size false) = fun _ => false := by
      funext i
      simp only [ls, Array.getD_eq_getD_getElem?, Array.getElem?_replicate]
      split <;> rfl
    rw [hf]
    rw [hW_none]
    refine ⟨hw1.subset rfl ?_ ?_, ?_⟩
    · intro p hp
      simp only [dSt, List.mem_append] at hp
      rcases hp with hp | hp
      · obtain ⟨i, o, v, _, _, h3, _⟩ := mem_partT.1 hp; cases h3
      · exact (mem_dropTs hp).1
    · intro p hp
      simp only [dSt, List.mem_append] at hp
      rcases hp with hp | hp
      · obtain ⟨i, o, v, d, _, _, h3, _⟩ := mem_partH.1 hp; cases h3
      · exact hp
    · intro i o v d h1 h2 _ h4 h5
      exact rdels_none (.inl (hLs _ (newLs_mem h1 h2 h4 h5)))

/-- as far as the values say, the region may be walked -/
def ADW (P : Program) (id : Nat) (ops : Array Oper) (W : Wr) (m : Nat) (Ls : List Nat) (K : Exit → St → Prop) (st : St) (vs : List (AV × Option Blk)) : Prop :=
  (∀ l ∈ newLs (ops.toList.take m) vs, l ∈ Ls) → (∀ (i : Nat) (o : Oper) (v : AV × Option Blk), (ops.toList.take m)[i]? = some o → vs[i]? = some v → DFactW P (st.drops Ls) W ops (ops.toList.take m) vs i o v) → AW P (.region id ops true) K st

theorem ADW.snoc {P id ops W m Ls K st vs} {o : Oper} {v : AV × Option Blk} (he : edgesOk 0 ops.toList = true) (ho : (ops.toList.take m)[vs.length]? = some o) (hl : lOk Ls o.dst v.2 = true)
    (hf : DFactW P (st.drops Ls) W ops (ops.toList.take m) vs vs.length o v) (h : ADW P id ops W m Ls K st (vs ++ [v])) : ADW P id ops W m Ls K st vs := by
  intro hls hfs
  have hview : ∀ (i : Nat) (o' : Oper), (ops.toList.take m)[i]? = some o' → i ≤ vs.length → ∀ L, dViewL ⟨(st.drops Ls).n, (st.drops Ls).t, hV W (st.drops Ls).h⟩ (ops.toList.take m) (vs ++ [v]) L o' = dViewL ⟨(st.drops Ls).n, (st.drops Ls).t, hV W (st.drops Ls).h⟩ (ops.toList.take m) vs L o' := by
    intro i o' ho' hi L
    simp only [dViewL]
    rw [partT_snoc]
    simp only [Nat.zero_add, List.contains_eq_mem, decide_eq_false_iff_not]
    intro hmem
    have h1 : ops.toList[i]? = some o' := by
      rw [List.getElem?_take] at ho'
      split at ho'
      · exact ho'
      · cases ho'
    have := edgesOk_lt he i o' h1 _ hmem
    omega
  refine h ?_ ?_
  · intro l hmem
    rw [newLs_snoc ho] at hmem
    rcases List.mem_append.1 hmem with hmem | hmem
    · exact hls l hmem
    · cases hd : o.dst <;> cases hB : v.2 <;> simp only [hd, hB, mkL, lOk] at hmem hl <;> try (cases hmem; done)
      simp only [List.mem_singleton] at hmem
      subst hmem
      simpa using hl
  · intro i o' v' ho' hv'
    have hi : i ≤ vs.length := by
      have := (List.getElem?_eq_some_iff.1 hv').1
      simp at this; omega
    have key : ∀ v'', DFactW P (st.drops Ls) W ops (ops.toList.take m) vs i o' v'' → DFactW P (st.drops Ls) W ops (ops.toList.take m) (vs ++ [v]) i o' v'' := by
      intro v'' hd
      unfold DFactW DFact SFact at hd ⊢
      simp only [hview i o' ho' hi]
      exact hd
    by_cases hlt : i < vs.length
    · rw [List.getElem?_append_left hlt] at hv'
      exact key v' (hfs i o' v' ho' hv')
    · have hie : i = vs.length := by omega
      subst hie
      rw [List.getElem?_append_right (Nat.le_refl _)] at hv'
      simp at hv'
      subst hv'
      rw [ho] at ho'
      cases ho'
      exact key _ hf



/-- the rest of what may stand in any order, with writes -/
def ADLW (P : Program) (id : Nat) (ops : Array Oper) (W : Wr) (m : Nat) (Ls : List Nat) (K : Exit → St → Prop) (st : St) (pre : List Oper) (st1 : St) (base : List (Nat × AV)) (os : List Oper) (vs : List (AV × Option Blk)) : Prop :=
  drawOk ops m = true → pre = ops.toList.take m → st1 = ⟨(st.drops Ls).n, (st.drops Ls).t, hV W (st.drops Ls).h⟩ → base = dropTs (dsts pre) st1.t → pre.drop vs.length = os → ADW P id ops W m Ls K st vs
def offW (W : Wr) (i : Nat) : Bool := W.all fun e => decide (e.1 ≠ i)
theorem offW_iff {W : Wr} {i : Nat} (h : offW W i = true) : ∀ e ∈ W, e.1 ≠ i := by
  intro e he; have := List.all_eq_true.1 h e he; simpa using this
theorem ADLW.pure {P : Program} {id : Nat} {ops : Array Oper} {W : Wr} {m : Nat} {Ls : List Nat} {K : Exit → St → Prop} {st : St} {pre : List Oper} {st1 : St} {base : List (Nat × AV)} {o : Oper} {os : List Oper} {vs : List (AV × Option Blk)} {v : AV × Option Blk}
    (hoff : offW W vs.length = true) (hr : dStepL P st.n ops.toList Ls (dVw st1 pre base vs o) o = some v) (h : ADLW P id ops W m Ls K st pre st1 base os (vs ++ [v])) : ADLW P id ops W m Ls K st pre st1 base (o :: os) vs := by
  intro hok hpre hst hbase hos
  have h' := h hok hpre hst hbase (by rw [List.length_append, List.length_singleton, ← List.drop_drop, hos]; rfl)
  simp only [drawOk, Bool.and_eq_true, decide_eq_true_eq] at hok
  obtain ⟨he, _⟩ := hok
  have ho : pre[vs.length]? = some o := by
    have := congrArg (·[0]?) hos
    simpa using this
  subst hpre
  have hvw : dVw st1 (ops.toList.take m) base vs o = dViewL ⟨(st.drops Ls).n, (st.drops Ls).t, hV W (st.drops Ls).h⟩ (ops.toList.take m) vs [] o := by
    subst hst hbase
    rw [dVw_eq]
    simp only [dView, dViewL, List.nil_append]
  rw [hvw] at hr
  have hn : (⟨(st.drops Ls).n, (st.drops Ls).t, hV W (st.drops Ls).h⟩ : St).n = st.n := drops_n _ _
  unfold dStepL at hr
  rw [gOkL_eq] at hr
  split at hr
  · rename_i hd hg
    cases hr
    exact ADW.snoc he ho (by cases o.dst <;> simp [lOk]) (.inl ⟨offW_iff hoff, by rw [hn]; exact hd, [], LateOk.nil _ _ _, .inl ⟨hg, rfl⟩⟩) h'
  · rename_i hd hg
    simp only [Option.bind_eq_some_iff] at hr
    obtain ⟨v', hv, hr⟩ := hr
    split at hr
    · rename_i hl
      cases hr
      exact ADW.snoc he ho hl (.inl ⟨offW_iff hoff, by rw [hn]; exact hd, [], LateOk.nil _ _ _, .inr ⟨hg, .inl hv⟩⟩) h'
    · cases hr
  · cases hr
theorem ADLW.callF {P : Program} {id : Nat} {ops : Array Oper} {W : Wr} {m : Nat} {Ls : List Nat} {K : Exit → St → Prop} {st : St} {pre : List Oper} {st1 : St} {base : List (Nat × AV)} {o : Oper} {os : List Oper} {vs vs' : List (AV × Option Blk)} {g : FuncId} {as : List AV} {v : AV}
    (hoff : offW W vs.length = true) (hc : dCallL st.n ops.toList (dVw st1 pre base vs o) o = some (g, as)) (hF : CallF P st1.h as g v) (hcl : callable P g = true)
    (hvs : vs ++ [(v, none)] = vs') (h : ADLW P id ops W m Ls K st pre st1 base os vs') : ADLW P id ops W m Ls K st pre st1 base (o :: os) vs := by
  subst hvs
  intro hok hpre hst hbase hos
  rw [hst] at hF
  have h' := h hok hpre hst hbase (by rw [List.length_append, List.length_singleton, ← List.drop_drop, hos]; rfl)
  simp only [drawOk, Bool.and_eq_true, decide_eq_true_eq] at hok
  obtain ⟨he, _⟩ := hok
  have ho : pre[vs.length]? = some o := by
    have := congrArg (·[0]?) hos
    simpa using this
  subst hpre
  have hvw : dVw st1 (ops.toList.take m) base vs o = dViewL ⟨(st.drops Ls).n, (st.drops Ls).t, hV W (st.drops Ls).h⟩ (ops.toList.take m) vs [] o := by
    subst hst hbase
    rw [dVw_eq]
    simp only [dView, dViewL, List.nil_append]
  rw [hvw] at hc
  unfold dCallL at hc
  rw [gOkL_eq] at hc
  split at hc
  · rename_i hd hg
    exact ADW.snoc he ho (by cases o.dst <;> simp [lOk]) (.inl ⟨offW_iff hoff, by show dOk (st.drops Ls).n o.dst = true; rw [drops_n]; exact hd, [], LateOk.nil _ _ _, .inr ⟨hg, .inr ⟨g, as, hc, hcl, rfl, hF⟩⟩⟩) h'
  · cases hc
theorem ADLW.call {P : Program} {id : Nat} {ops : Array Oper} {W : Wr} {m : Nat} {Ls : List Nat} {K : Exit → St → Prop} {st : St} {pre : List Oper} {st1 : St} {base : List (Nat × AV)} {o : Oper} {os : List Oper} {vs vs' : List (AV × Option Blk)} {g : FuncId} {as : List AV} {v : AV}
    (hoff : offW W vs.length = true) (hc : dCallL st.n ops.toList (dVw st1 pre base vs o) o = some (g, as)) (hF : Fn P g as [] (fun r _ => r = v)) (hcl : callable P g = true) (hfr : frees as = true) (hv : v.free = true)
    (hvs : vs ++ [(v, none)] = vs') (h : ADLW P id ops W m Ls K st pre st1 base os vs') : ADLW P id ops W m Ls K st pre st1 base (o :: os) vs :=
  ADLW.callF hoff hc (.inl ⟨hfr, hv, hF⟩) hcl hvs h
theorem ADLW.callB {P : Program} {id : Nat} {ops : Array Oper} {W : Wr} {m : Nat} {Ls : List Nat} {K : Exit → St → Prop} {st : St} {pre : List Oper} {st1 : St} {base : List (Nat × AV)} {o : Oper} {os : List Oper} {vs vs' : List (AV × Option Blk)} {g : FuncId} {as0 as : List AV} {x : Value} (ls : List (Nat × List AV)) (hls : FrzOk st1.h [] ls)
    (hoff : offW W vs.length = true) (hc : dCallL st.n ops.toList (dVw st1 pre base vs o) o = some (g, as0)) (has : frzL ls as0 = as) (hF : Fn P g as [] (fun r _ => r = .val x)) (hcl : callable P g = true) (hfr : frees as = true)
    (hvs : vs ++ [(.val x, none)] = vs') (h : ADLW P id ops W m Ls K st pre st1 base os vs') : ADLW P id ops W m Ls K st pre st1 base (o :: os) vs :=
  ADLW.callF hoff hc (.inr ⟨ls, x, rfl, hls, by rw [has]; exact hfr, by rw [has]; exact hF⟩) hcl hvs h
/-- a write -/
theorem ADLW.write {P : Program} {id : Nat} {ops : Array Oper} {W : Wr} {m : Nat} {Ls : List Nat} {K : Exit → St → Prop} {st : St} {pre : List Oper} {st1 : St} {base : List (Nat × AV)} {o : Oper} {os : List Oper} {vs vs' : List (AV × Option Blk)} {t l off z : Nat} {x y : Operand} {u : AV} {B B' : Blk}
    (hd : o.dst = none) (hop : o.op = .store t x y) (hg : gOkL ops.toList (dVw st1 pre base vs o) o.guard = some true) (hx : (dVw st1 pre base vs o).eval x = some (.ptr l off)) (hy : (dVw st1 pre base vs o).eval y = some u) (hB : get? l (st.drops Ls).h = some B) (hz : tSz P t = some z)
    (hc : u.fits = true ∧ u.cells.length = z ∧ 0 < z ∧ off + z ≤ B.cs.length ∧ (B.boxy = false → frees u.cells = true)) (hB' : ({ B with cs := splice off u.cells B.cs } : Blk) = B') (hm : (vs.length, l, B') ∈ W)
    (hvs : vs ++ [(.dead, none)] = vs') (h : ADLW P id ops W m Ls K st pre st1 base os vs') : ADLW P id ops W m Ls K st pre st1 base (o :: os) vs := by
  subst hvs hB'
  intro hok hpre hst hbase hos
  have h' := h hok hpre hst hbase (by rw [List.length_append, List.length_singleton, ← List.drop_drop, hos]; rfl)
  simp only [drawOk, Bool.and_eq_true, decide_eq_true_eq] at hok
  obtain ⟨he, _⟩ := hok
  have ho : pre[vs.length]? = some o := by
    have := congrArg (·[0]?) hos
    simpa using this
  subst hpre
  have hvw : dVw st1 (ops.toList.take m) base vs o = dViewL ⟨(st.drops Ls).n, (st.drops Ls).t, hV W (st.drops Ls).h⟩ (ops.toList.take m) vs [] o := by
    subst hst hbase
    rw [dVw_eq]
    simp only [dView, dViewL, List.nil_append]
  rw [hvw] at hx hy hg
  rw [gOkL_eq] at hg
  exact ADW.snoc he ho (by rw [hd]; rfl) (.inr ⟨hd, rfl, [], LateOk.nil _ _ _, hg, t, x, y, l, off, u, B, z, hop, hx, hy, hB, hz, hc, hm⟩) h'
theorem AW.drwW {P : Program} {id : Nat} {ops : Array Oper} {K : Exit → St → Prop} {st st1 : St} {base : List (Nat × AV)} {pre : List Oper} (W : Wr) (m : Nat) (Ls : List Nat) (hok : drawOk ops m = true)
    (hst : (⟨(st.drops Ls).n, (st.drops Ls).t, hV W (st.drops Ls).h⟩ : St) = st1)
    (hp : takeL m ops.toList = pre)
    (hb : dropTL (dsts pre) st1.t = base)
    (h : ADLW P id ops W m Ls K st pre st1 base pre []) : AW P (.region id ops true) K st := by
  rw [takeL_eq] at hp
  rw [dropTL_eq] at hb
  subst hp
  refine h hok rfl hst.symm hb.symm rfl ?_ (by intro i o v _ hv; simp at hv)
  intro l hl
  cases hq : ops.toList.take m <;> rw [hq] at hl <;> simp [newLs] at hl
theorem ADLW.done {P : Program} {id : Nat} {ops : Array Oper} {W : Wr} {m : Nat} {Ls : List Nat} {K : Exit → St → Prop} {st : St} {pre : List Oper} {st1 : St} {base t : List (Nat × AV)} {hh : List (Nat × Blk)} {vs : List (AV × Option Blk)} {n : Nat} (hmix : P.follows .mixedOrders = true) (ok : okW W = true) (hWm : (W.all fun e => decide (e.1 < m)) = true) (hlen : vs.length = m)
    (hn : st1.n = n) (ht : insAll base pre vs = t) (hhh : insAllH (hW W (fun _ => true) (st.drops Ls).h) pre vs = hh)
    {os' : List Oper} (hos' : dropL m ops.toList = os') (hT : AOL P ops os' (K .normal) ⟨n, t, hh⟩) : ADLW P id ops W m Ls K st pre st1 base [] vs := by
  intro hok hpre hst hbase hos
  simp only [drawOk, Bool.and_eq_true, decide_eq_true_eq] at hok
  obtain ⟨h1, h2, h3, h4⟩ := hok
  intro hls hfs
  refine AW.drawW hmix ok m (by intro e he; have := List.all_eq_true.1 hWm e he; simpa using this) Ls vs h4 hlen h2 (nodupB_iff h3) hls hfs ?_
  rw [dropL_eq] at hos'
  subst hos'
  have hT' := hT m rfl
  rw [List.length_drop, Array.length_toList] at hT'
  refine AOps.sub ?_ hT'
  intro ρ F a w hR
  refine ⟨ρ, F, hR.subset ?_ ?_ ?_, Fr.refl _ _ _⟩
  · subst hst hn; rfl
  · intro p hp
    subst ht
    simp only [dSt, List.mem_append]
    rw [← hpre, dstsS_true]
    have hb : base = dropTs (dsts pre) (st.drops Ls).t := by rw [hbase, hst]
    rw [← hb]
    rcases mem_insAll (i := 0) hp with h | h
    · exact .inl h
    · exact .inr h
  · intro p hp
    subst hhh
    simp only [dSt, List.mem_append]
    rw [← hpre]
    rcases mem_insAllH (i := 0) hp with h | h
    · exact .inl h
    · exact .inr h
end Go.Proofs.YtjeafkodcmbabaaDoor.E

namespace Go.Proofs.YtjeafkodcmbabaaDoor.E
set_option linter.unusedVariables false
set_option linter.unusedSimpArgs false
/-! ## The same, step by step -/
theorem ADLW.d1 {P : Program} {id : Nat} {ops : Array Oper} {W : Wr} {m : Nat} {Ls : List Nat} {K : Exit → St → Prop} {st : St} {pre : List Oper} {st1 : St} {base : List (Nat × AV)} {o : Oper} {os : List Oper} {vs vs' : List (AV × Option Blk)} {v : AV × Option Blk}
    (hoff : offW W vs.length = true := by exact rfl)
    (hr : dStepL P st.n ops.toList Ls (dVw st1 pre base vs o) o = some v := by
      simp only [dRunK, dStepL, dVw, pickT, predsL, inL, dEval, lOk, runK, stepL, memOp, pureOp, gOkL, dstAt, dOk, St.eval, St.evalO, get?, St.put, ins, del, AV.ofV, aBinAll, aBin, aBinI, aBinA, csEq, cEq, rI, isC, aUn, aConv, aStr, nums_by8, aIface, aNil, aCallB, aLen, aMinMax, intOf?, bnd, Go.Proofs.YtjeafkodcmbabaaDoor.E.ld, Go.Proofs.YtjeafkodcmbabaaDoor.E.part, Go.Proofs.YtjeafkodcmbabaaDoor.E.takeAgg_tk, Go.Proofs.YtjeafkodcmbabaaDoor.E.tk, aFieldAddr, aIndexAddr, aField, aIndex, aBuildSlice, cBuild, aAlloc, aStore, aApp, srcCells, aFill, mapM?, St.parts, St.new, St.drop, mapT, mapH, kill, kills, AV.cells, AV.fits, AV.one, AV.free, frees, splice, cyc, lab, Value.oneCell', Value.cells, Option.bind_some, Option.map_some, Option.bind_none, Option.map_none, decide_true, decide_false, if_true, if_false, reduceIte, reduceCtorEq, Bool.false_eq_true, Nat.reduceLT, Nat.reduceEqDiff, Nat.reduceAdd, Nat.reduceMul, Nat.reduceLeDiff, Nat.reduceSub, Nat.zero_add, Nat.add_zero, Nat.zero_mul, Nat.one_mul, Nat.mul_one, Int.toNat_natCast, Int.toNat_zero, List.drop_succ_cons, List.drop_zero, List.take_succ_cons, List.take_zero, List.length_cons, List.length_nil, List.head?_cons, List.map_cons, List.map_nil, List.all_cons, List.all_nil, List.cons_append, List.nil_append, List.append_nil, List.set_cons_zero, List.set_cons_succ, List.getElem?_cons_zero, List.getElem?_cons_succ, Bool.not_true, Bool.not_false, beq_true, beq_false, Bool.true_beq, Bool.false_beq, Bool.and_self, Bool.and_true, Bool.true_and, and_self, and_true, true_and, false_implies, true_implies, implies_true, bne_self_eq_false, beq_self_eq_true, Option.isSome_some, List.all, *]
      exact rfl)
    (hvs : vs ++ [v] = vs' := by simp only [List.cons_append, List.nil_append]; exact rfl)
    (h : ADLW P id ops W m Ls K st pre st1 base os vs') : ADLW P id ops W m Ls K st pre st1 base (o :: os) vs := by
  subst hvs; exact ADLW.pure hoff hr h
theorem ADLW.st {P : Program} {id : Nat} {ops : Array Oper} {W : Wr} {m : Nat} {Ls : List Nat} {K : Exit → St → Prop} {st : St} {pre : List Oper} {st1 : St} {base : List (Nat × AV)} {o : Oper} {os : List Oper} {vs vs' : List (AV × Option Blk)} {t l off z : Nat} {x y : Operand} {u : AV} {B B' : Blk}
    (hd : o.dst = none := by exact rfl) (hop : o.op = .store t x y := by exact rfl) (hg : gOkL ops.toList (dVw st1 pre base vs o) o.guard = some true := by exact rfl)
    (hx : (dVw st1 pre base vs o).eval x = some (.ptr l off) := by
      simp only [dRunK, dStepL, dVw, pickT, predsL, inL, dEval, lOk, runK, stepL, memOp, pureOp, gOkL, dstAt, dOk, St.eval, St.evalO, get?, St.put, ins, del, AV.ofV, aBinAll, aBin, aBinI, aBinA, csEq, cEq, rI, isC, aUn, aConv, aStr, nums_by8, aIface, aNil, aCallB, aLen, aMinMax, intOf?, bnd, Go.Proofs.YtjeafkodcmbabaaDoor.E.ld, Go.Proofs.YtjeafkodcmbabaaDoor.E.part, Go.Proofs.YtjeafkodcmbabaaDoor.E.takeAgg_tk, Go.Proofs.YtjeafkodcmbabaaDoor.E.tk, aFieldAddr, aIndexAddr, aField, aIndex, aBuildSlice, cBuild, aAlloc, aStore, aApp, srcCells, aFill, mapM?, St.parts, St.new, St.drop, mapT, mapH, kill, kills, AV.cells, AV.fits, AV.one, AV.free, frees, splice, cyc, lab, Value.oneCell', Value.cells, Option.bind_some, Option.map_some, Option.bind_none, Option.map_none, decide_true, decide_false, if_true, if_false, reduceIte, reduceCtorEq, Bool.false_eq_true, Nat.reduceLT, Nat.reduceEqDiff, Nat.reduceAdd, Nat.reduceMul, Nat.reduceLeDiff, Nat.reduceSub, Nat.zero_add, Nat.add_zero, Nat.zero_mul, Nat.one_mul, Nat.mul_one, Int.toNat_natCast, Int.toNat_zero, List.drop_succ_cons, List.drop_zero, List.take_succ_cons, List.take_zero, List.length_cons, List.length_nil, List.head?_cons, List.map_cons, List.map_nil, List.all_cons, List.all_nil, List.cons_append, List.nil_append, List.append_nil, List.set_cons_zero, List.set_cons_succ, List.getElem?_cons_zero, List.getElem?_cons_succ, Bool.not_true, Bool.not_false, beq_true, beq_false, Bool.true_beq, Bool.false_beq, Bool.and_self, Bool.and_true, Bool.true_and, and_self, and_true, true_and, false_implies, true_implies, implies_true, bne_self_eq_false, beq_self_eq_true, Option.isSome_some, List.all, *]
      exact rfl)
    (hy : (dVw st1 pre base vs o).eval y = some u := by
      simp only [dRunK, dStepL, dVw, pickT, predsL, inL, dEval, lOk, runK, stepL, memOp, pureOp, gOkL, dstAt, dOk, St.eval, St.evalO, get?, St.put, ins, del, AV.ofV, aBinAll, aBin, aBinI, aBinA, csEq, cEq, rI, isC, aUn, aConv, aStr, nums_by8, aIface, aNil, aCallB, aLen, aMinMax, intOf?, bnd, Go.Proofs.YtjeafkodcmbabaaDoor.E.ld, Go.Proofs.YtjeafkodcmbabaaDoor.E.part, Go.Proofs.YtjeafkodcmbabaaDoor.E.takeAgg_tk, Go.Proofs.YtjeafkodcmbabaaDoor.E.tk, aFieldAddr, aIndexAddr, aField, aIndex, aBuildSlice, cBuild, aAlloc, aStore, aApp, srcCells, aFill, mapM?, St.parts, St.new, St.drop, mapT, mapH, kill, kills, AV.cells, AV.fits, AV.one, AV.free, frees, splice, cyc, lab, Value.oneCell', Value.cells, Option.bind_some, Option.map_some, Option.bind_none, Option.map_none, decide_true, decide_false, if_true, if_false, reduceIte, reduceCtorEq, Bool.false_eq_true, Nat.reduceLT, Nat.reduceEqDiff, Nat.reduceAdd, Nat.reduceMul, Nat.reduceLeDiff, Nat.reduceSub, Nat.zero_add, Nat.add_zero, Nat.zero_mul, Nat.one_mul, Nat.mul_one, Int.toNat_natCast, Int.toNat_zero, List.drop_succ_cons, List.drop_zero, List.take_succ_cons, List.take_zero, List.length_cons, List.length_nil, List.head?_cons, List.map_cons, List.map_nil, List.all_cons, List.all_nil, List.cons_append, List.nil_append, List.append_nil, List.set_cons_zero, List.set_cons_succ, List.getElem?_cons_zero, List.getElem?_cons_succ, Bool.not_true, Bool.not_false, beq_true, beq_false, Bool.true_beq, Bool.false_beq, Bool.and_self, Bool.and_true, Bool.true_and, and_self, and_true, true_and, false_implies, true_implies, implies_true, bne_self_eq_false, beq_self_eq_true, Option.isSome_some, List.all, *]
      exact rfl)
    (hB : get? l (st.drops Ls).h = some B := by simp only [St.drops, St.drop, mapT, mapH, kill, kills, del, get?, reduceIte, Nat.reduceEqDiff]; exact rfl) (hz : tSz P t = some z := by simp only [*]; exact rfl)
    (hc : u.fits = true ∧ u.cells.length = z ∧ 0 < z ∧ off + z ≤ B.cs.length ∧ (B.boxy = false → frees u.cells = true) := by
      simp only [dRunK, dStepL, dVw, pickT, predsL, inL, dEval, lOk, runK, stepL, memOp, pureOp, gOkL, dstAt, dOk, St.eval, St.evalO, get?, St.put, ins, del, AV.ofV, aBinAll, aBin, aBinI, aBinA, csEq, cEq, rI, isC, aUn, aConv, aStr, nums_by8, aIface, aNil, aCallB, aLen, aMinMax, intOf?, bnd, Go.Proofs.YtjeafkodcmbabaaDoor.E.ld, Go.Proofs.YtjeafkodcmbabaaDoor.E.part, Go.Proofs.YtjeafkodcmbabaaDoor.E.takeAgg_tk, Go.Proofs.YtjeafkodcmbabaaDoor.E.tk, aFieldAddr, aIndexAddr, aField, aIndex, aBuildSlice, cBuild, aAlloc, aStore, aApp, srcCells, aFill, mapM?, St.parts, St.new, St.drop, mapT, mapH, kill, kills, AV.cells, AV.fits, AV.one, AV.free, frees, splice, cyc, lab, Value.oneCell', Value.cells, Option.bind_some, Option.map_some, Option.bind_none, Option.map_none, decide_true, decide_false, if_true, if_false, reduceIte, reduceCtorEq, Bool.false_eq_true, Nat.reduceLT, Nat.reduceEqDiff, Nat.reduceAdd, Nat.reduceMul, Nat.reduceLeDiff, Nat.reduceSub, Nat.zero_add, Nat.add_zero, Nat.zero_mul, Nat.one_mul, Nat.mul_one, Int.toNat_natCast, Int.toNat_zero, List.drop_succ_cons, List.drop_zero, List.take_succ_cons, List.take_zero, List.length_cons, List.length_nil, List.head?_cons, List.map_cons, List.map_nil, List.all_cons, List.all_nil, List.cons_append, List.nil_append, List.append_nil, List.set_cons_zero, List.set_cons_succ, List.getElem?_cons_zero, List.getElem?_cons_succ, Bool.not_true, Bool.not_false, beq_true, beq_false, Bool.true_beq, Bool.false_beq, Bool.and_self, Bool.and_true, Bool.true_and, and_self, and_true, true_and, false_implies, true_implies, implies_true, bne_self_eq_false, beq_self_eq_true, Option.isSome_some, List.all, *])
    (hB' : ({ B with cs := splice off u.cells B.cs } : Blk) = B' := by simp only [splice, AV.cells, *]; exact rfl) (hm : (vs.length, l, B') ∈ W := by first | exact List.mem_cons_self | exact List.mem_cons_of_mem _ List.mem_cons_self)
    (hvs : vs ++ [(.dead, none)] = vs' := by simp only [List.cons_append, List.nil_append]; exact rfl)
    (h : ADLW P id ops W m Ls K st pre st1 base os vs') : ADLW P id ops W m Ls K st pre st1 base (o :: os) vs := ADLW.write hd hop hg hx hy hB hz hc hB' hm hvs h
theorem AW.dw {P : Program} {id : Nat} {ops : Array Oper} {K : Exit → St → Prop} {st st1 : St} {base : List (Nat × AV)} {pre : List Oper} (W : Wr) (m : Nat) (Ls : List Nat) (hok : drawOk ops m = true)
    (hst : (⟨(st.drops Ls).n, (st.drops Ls).t, hV W (st.drops Ls).h⟩ : St) = st1 := by simp only [St.drops, St.drop, mapT, mapH, kill, kills, del, hV, inW, reduceIte, Nat.reduceEqDiff]; exact rfl)
    (hp : takeL m ops.toList = pre := by simp only [takeL]; exact rfl)
    (hb : dropTL (dsts pre) st1.t = base := by simp only [dsts, dropTL, inL, List.cons_append, List.nil_append, List.append_nil, reduceIte, Nat.reduceEqDiff]; exact rfl)
    (h : ADLW P id ops W m Ls K st pre st1 base pre []) : AW P (.region id ops true) K st := AW.drwW W m Ls hok hst hp hb h
theorem ADLW.fin {P : Program} {id : Nat} {ops : Array Oper} {W : Wr} {m : Nat} {Ls : List Nat} {K : Exit → St → Prop} {st : St} {pre : List Oper} {st1 : St} {base t : List (Nat × AV)} {hh : List (Nat × Blk)} {vs : List (AV × Option Blk)} {n : Nat} (hmix : P.follows .mixedOrders = true) (ok : okW W = true) (hWm : (W.all fun e => decide (e.1 < m)) = true) (hlen : vs.length = m)
    (hn : st1.n = n) (ht : insAll base pre vs = t := by simp only [insAll, ins, del, reduceIte, Nat.reduceLT, Nat.reduceEqDiff]; exact rfl) (hhh : insAllH (hW W (fun _ => true) (st.drops Ls).h) pre vs = hh := by simp only [St.drops, St.drop, mapT, mapH, kill, kills, hW, newB, List.map_cons, List.map_nil, insAllH, ins, del, lab, reduceIte, Nat.reduceLT, Nat.reduceEqDiff, Nat.reduceAdd, Nat.reduceMul, Bool.false_eq_true]; exact rfl)
    {os' : List Oper} (hos' : dropL m ops.toList = os' := by simp only [dropL]; exact rfl) (hT : AOL P ops os' (K .normal) ⟨n, t, hh⟩) : ADLW P id ops W m Ls K st pre st1 base [] vs := ADLW.done hmix ok hWm hlen hn ht hhh hos' hT
end Go.Proofs.YtjeafkodcmbabaaDoor.E

namespace Go.Proofs.YtjeafkodcmbabaaDoor.E
set_option linter.unusedVariables false
set_option linter.unusedSimpArgs false
/-! ## A block by another label -/
def mvN (l L k : Nat) : Nat := if k = l then L else k
def mvH (l L : Nat) : List (Nat × Blk) → List (Nat × Blk)
  | [] => []
  | (k, B) :: r => (mvN l L k, if B.boxy then renB (mvN l L) B else B) :: mvH l L r
theorem mem_mvH {l L : Nat} {p : Nat × Blk} : ∀ {h : List (Nat × Blk)}, p ∈ mvH l L h → ∃ q ∈ h, p.1 = mvN l L q.1 ∧ p.2 = if q.2.boxy then renB (mvN l L) q.2 else q.2
  | [], hp => by cases hp
  | (k, B) :: r, hp => by
    simp only [mvH] at hp
    rcases List.mem_cons.1 hp with rfl | hp
    · exact ⟨(k, B), by simp, rfl, rfl⟩
    · obtain ⟨q, hq, h⟩ := mem_mvH hp; exact ⟨q, List.mem_cons_of_mem _ hq, h⟩
def St.mv (st : St) (l L : Nat) : St := { n := st.n, t := mapT (ren (mvN l L)) (st.drop L).t, h := mvH l L (st.drop L).h }
theorem Sub.mv (st : St) {l L : Nat} (hL : 1000 ≤ L) (hne : l ≠ L) : Sub st (st.mv l L) := fun ρ F a w hR => by
  have h1 := hR.drop L
  let ρ2 : Rho := fun k => if k = L then rdel L ρ l else if k = l then none else rdel L ρ k
  have hL1 : rdel L ρ L = none := by simp [rdel]
  have key : ∀ k x, rdel L ρ k = some x → ρ2 (mvN l L k) = some x := by
    intro k x hx
    simp only [ρ2, mvN]
    by_cases e : k = l
    · subst e; simp [hx]
    · rw [if_neg e]
      have : k ≠ L := by rintro rfl; rw [hL1] at hx; cases hx
      rw [if_neg this, if_neg e]; exact hx
  have back : ∀ k r m, ρ2 k = some (r, m) → ∃ k', mvN l L k' = k ∧ rdel L ρ k' = some (r, m) := by
    intro k r m hk
    simp only [ρ2] at hk
    split at hk
    · rename_i e; subst e; exact ⟨l, by simp [mvN], hk⟩
    · split at hk
      · cases hk
      · rename_i e2; exact ⟨k, by simp [mvN, e2], hk⟩
  refine ⟨ρ2, F, ⟨⟨?_, ?_, ?_, ?_, h1.heap.flt, h1.heap.glb⟩, h1.size, h1.defers, ?_⟩, ?_⟩
  · intro k B hB
    obtain ⟨q, hq, e1, e2⟩ := mem_mvH hB
    simp only at e1 e2
    subst e1
    rcases h1.heap.blk q.1 q.2 hq with ⟨h0, h2⟩ | ⟨r, m, c, h2, h3, h4, vs, h5, h6⟩
    · refine .inl ⟨?_, ?_⟩
      · rw [e2]; split
        · simp [renB, h0, rens]
        · exact h0
      · simp only [ρ2, mvN]
        by_cases e : q.1 = l
        · rw [if_pos e, if_pos rfl, ← e]; exact h2
        · rw [if_neg e]
          split
          · rename_i e3
            exfalso
            have hq' : (q.1, q.2) ∈ mapH L (del L st.h) := hq
            obtain ⟨C, hC, _⟩ := mem_mapH hq'
            exact (mem_del hC).2 e3
          · exact h2
    · refine .inr ⟨r, m, c, key _ _ h2, ?_, h4, vs, ?_, h6⟩
      · rw [e2]; split <;> exact h3
      · rw [e2]
        cases hb : q.2.boxy
        · simp only [hb, Bool.false_eq_true, if_false] at h5 ⊢
          exact h5
        · simp only [hb, if_true] at h5 ⊢
          have : (renB (mvN l L) q.2).boxy = true := hb
          rw [if_pos this]
          exact rens_fwd _ _ (fun k _ x hx => key k x hx) h5
  · intro k k' r m m' hk hk'
    obtain ⟨x, rfl, hx⟩ := back _ _ _ hk
    obtain ⟨y, rfl, hy⟩ := back _ _ _ hk'
    rw [h1.heap.inj _ _ _ _ _ hx hy]
  · intro k r m hk
    obtain ⟨x, rfl, hx⟩ := back _ _ _ hk
    exact h1.heap.apart _ _ _ hx
  · intro k r m hk
    obtain ⟨x, rfl, hx⟩ := back _ _ _ hk
    exact h1.heap.lt _ _ _ hx
  · intro t v hv
    obtain ⟨u, hu, rfl⟩ := mem_mapT hv
    have := h1.tmps t u hu
    exact ⟨this.1, ren_fwd _ _ (fun k _ x hx => key k x hx) this.2⟩
  · refine (Fr.drop ρ F w L).trans ?_
    exact { os := rfl, tape := rfl, output := rfl, size := Nat.le_refl _, block := fun _ _ _ => rfl, froz := fun _ h => h
            froz' := fun _ h => .inl h
            own := fun k r m hk => by obtain ⟨x, _, hx⟩ := back _ _ _ hk; exact .inl ⟨x, m, hx⟩
            same := fun k hk x y hx hy => by
              have e1 : k ≠ L := by omega
              simp only [ρ2] at hy
              rw [if_neg e1] at hy
              split at hy
              · cases hy
              · rw [hx] at hy
                exact Option.some.inj hy
            gone := fun k hk hx => by
              have e1 : k ≠ L := by omega
              simp only [ρ2]
              rw [if_neg e1]
              split
              · rfl
              · exact hx }
theorem AW.mv {P c K st st'} (l L : Nat) (hL : 1000 ≤ L := by decide) (hne : l ≠ L := by decide)
    (hs : st.mv l L = st' := by simp only [St.mv, St.drop, mapT, mapH, kill, kills, del, mvH, mvN, ren, rens, renB, reduceIte, Nat.reduceEqDiff, Bool.false_eq_true]; exact rfl) (h : AW P c K st') : AW P c K st := by
  subst hs; exact AW.sub (Sub.mv st hL hne) h
theorem AOL.mv {P ops os K st st'} (l L : Nat) (hL : 1000 ≤ L := by decide) (hne : l ≠ L := by decide)
    (hs : st.mv l L = st' := by simp only [St.mv, St.drop, mapT, mapH, kill, kills, del, mvH, mvN, ren, rens, renB, reduceIte, Nat.reduceEqDiff, Bool.false_eq_true]; exact rfl) (h : AOL P ops os K st') : AOL P ops os K st := by
  subst hs; exact AOL.subst_ (Sub.mv st hL hne) h
end Go.Proofs.YtjeafkodcmbabaaDoor.E
namespace Go.Proofs.YtjeafkodcmbabaaDoor.E
set_option linter.unusedVariables false
/-! ## A loop, round by round -/
/-- inside a loop, ahead of a round -/
def AWin (P : Program) (c : Code) (K : Exit → St → Prop) (st : St) : Prop := ∀ ρ F a w (Q : Exit → Act → World → Prop), Rel ρ F st a w →
  (∀ e st' ρ' F' a' w', K e st' → Rel ρ' F' st' a' w' → Fr ρ F w ρ' F' w' → Q e a' w') → ∀ b k cs, ∃ e a' w', Q e a' w' ∧ Arrives P (lone (b.at a (.code c :: .inLoop c :: k)) cs w) b k cs e a' w'
theorem AW.rounds {P c K st} (h : AWin P c K st) : AW P (.loop c) K st := by
  intro ρ F a w Q hR hQ b k cs
  obtain ⟨e, a', w', hq, harr⟩ := h ρ F a w Q hR hQ b k cs
  exact ⟨e, a', w', hq, .of_steps (.one step_loop) harr⟩
theorem AWin.round {P c K st} (h : AW P c (Kloop (fun s => AWin P c K s) K) st) : AWin P c K st := by
  intro ρ F a w Q hR hQ b k cs
  obtain ⟨e, a₁, w₁, hq, harr⟩ := h ρ F a w (fun e a1 w1 => match e with
      | .normal => ∃ s ρ'' F'', AWin P c K s ∧ Rel ρ'' F'' s a1 w1 ∧ Fr ρ F w ρ'' F'' w1
      | e => Q e a1 w1) hR (by
    intro e s ρ'' F'' a' w'' hk hr hf
    cases e <;> first
      | exact ⟨s, ρ'', F'', hk, hr, hf⟩
      | exact hQ _ _ _ _ _ _ hk hr hf) b (.inLoop c :: k) cs
  cases e with
  | normal =>
    obtain ⟨s, ρ'', F'', hl, hr, hf⟩ := hq
    obtain ⟨e₂, a₂, w₂, hq₂, harr₂⟩ := hl ρ'' F'' a₁ w₁ Q hr (fun e s' ρ3 F3 a3 w3 h1 h2 h3 => hQ e s' ρ3 F3 a3 w3 h1 h2 (hf.trans h3)) b k cs
    exact ⟨e₂, a₂, w₂, hq₂, .of_steps (Steps.trans harr (.one step_inLoop)) harr₂⟩
  | exit id => exact ⟨_, a₁, w₁, hq, .pass (x := .inLoop c) rfl (fun _ _ => .inl (by simp)) harr⟩
  | goto l => exact ⟨_, a₁, w₁, hq, .pass (x := .inLoop c) rfl (fun _ _ => .inl (by simp)) harr⟩
  | ret => exact ⟨_, a₁, w₁, hq, .pass (x := .inLoop c) rfl (fun _ _ => .inl (by simp)) harr⟩
  | panic ch => exact ⟨_, a₁, w₁, hq, .pass (x := .inLoop c) rfl (fun _ _ => .inl (by simp)) harr⟩
  | outgrown => exact ⟨_, a₁, w₁, hq, .pass (x := .inLoop c) rfl (fun _ _ => .inl (by simp)) harr⟩
theorem AWin.sub {P c K st st'} (hs : Sub st st') (h : AWin P c K st') : AWin P c K st := fun ρ F a w Q hR hQ => by
  obtain ⟨ρ', F', h1, h2⟩ := hs ρ F a w hR
  exact h ρ' F' a w Q h1 fun e s ρ3 F3 a3 w3 h3 h4 h5 => hQ e s ρ3 F3 a3 w3 h3 h4 (h2.trans h5)
/-- a round more, with these slots alone -/
theorem AWin.next {P : Program} {c : Code} {K : Exit → St → Prop} {st : St} {n : Nat} {t0 t : List (Nat × AV)} {h0 : List (Nat × Blk)} (ks : List Nat) (he : st = ⟨n, t0, h0⟩ := by exact rfl) (ht : keepT ks t0 = t := by simp only [keepT, List.contains_cons, List.contains_nil, BEq.rfl, Bool.or_true, Bool.true_or, Bool.or_false, Bool.false_or, Nat.reduceBEq, if_true, if_false, reduceIte, Bool.false_eq_true]; exact rfl)
    (h : AW P c (Kloop (fun s => AWin P c K s) K) ⟨n, t, h0⟩) : AWin P c K st := by
  subst he; subst ht; exact AWin.sub (Sub.keep _ ks) (AWin.round h)
/-- two ways meet, each with less told -/
theorem AW.midS {P : Program} {c y : Code} {K K0 : Exit → St → Prop} {st : St} (ks : List Nat) (J : St → Prop) (h1 : AW P c (Kloop (fun s => ∃ s', Sub (s.keep ks) s' ∧ J s') K) st) (h2 : ∀ s, J s → AW P y K0 s) (hk : ∀ s, AW P y K0 s → K .normal s := by exact fun _ h => h) : AW P c K st :=
  AW.mono h1 fun e s => by
    cases e with
    | normal => rintro ⟨s', hs, hJ⟩; exact hk _ (AW.sub (Sub.keep s ks) (AW.sub hs (h2 _ hJ)))
    | _ => exact fun h => h
end Go.Proofs.YtjeafkodcmbabaaDoor.E
namespace Go.Proofs.YtjeafkodcmbabaaDoor.E
set_option linter.unusedVariables false
/-! ## Less told of arguments -/
def Wk (c c' : AV) : Prop := ∀ (ρ : Rho) F w v, VR ρ F w c v → VR ρ F w c' v
def Wks (cs cs' : List AV) : Prop := ∀ (ρ : Rho) F w vs, VRs ρ F w cs vs → VRs ρ F w cs' vs
theorem Wk.refl (c : AV) : Wk c c := fun _ _ _ _ h => h
theorem Wks.refl (cs : List AV) : Wks cs cs := fun _ _ _ _ h => h
theorem Wks.nil : Wks [] [] := fun _ _ _ _ h => h
theorem Wks.cons {c c' : AV} {cs cs' : List AV} (h : Wk c c') (hs : Wks cs cs') : Wks (c :: cs) (c' :: cs') := fun ρ F w vs hv => by
  simp only [VRs] at hv ⊢
  obtain ⟨v, rest, e, h1, h2⟩ := hv
  exact ⟨v, rest, e, h _ _ _ _ h1, hs _ _ _ _ h2⟩
theorem Wks.app {as as' bs bs' : List AV} (h : Wks as as') (k : Wks bs bs') (hl : as.length = as'.length) : Wks (as ++ bs) (as' ++ bs') := by
  intro ρ F w vs hv
  have h1 := hv.take as.length
  have h2 := hv.drop as.length
  rw [List.take_left] at h1
  rw [List.drop_left] at h2
  have := (h _ _ _ _ h1).append (k _ _ _ _ h2)
  rwa [List.take_append_drop] at this
theorem Wk.agg {cs cs' : List AV} (h : Wks cs cs') : Wk (.agg cs) (.agg cs') := fun ρ F w v hv => by
  simp only [VR] at hv ⊢
  obtain ⟨vs, e, hv⟩ := hv
  exact ⟨vs, e, h _ _ _ _ hv⟩
theorem Wk.nilS : Wk (.val (.slice none 0 0)) (.sl 0 []) := fun ρ F w v hv => by
  simp only [VR] at hv ⊢
  subst hv
  exact ⟨none, 0, [], rfl, Nat.le_refl _, Nat.zero_le _, rfl, .inl rfl, fun _ => rfl, by simp⟩
theorem Wk.emp : Wk .emp (.sl 0 []) := fun ρ F w v hv => by
  simp only [VR] at hv ⊢
  obtain ⟨base, rfl⟩ := hv
  exact ⟨base, 0, [], rfl, Nat.le_refl _, Nat.zero_le _, rfl, .inl rfl, fun _ => rfl, by intro a _ h; omega⟩
theorem Wk.sl {n : Nat} {cs cs' : List AV} (h : Wks cs cs') : Wk (.sl n cs) (.sl n cs') := fun ρ F w v hv => by
  simp only [VR] at hv ⊢
  obtain ⟨base, cap, vs, h1, h2, h3, h4, h5, h6, h7⟩ := hv
  exact ⟨base, cap, vs, h1, h2, h3, h _ _ _ _ h4, h5, h6, h7⟩
theorem Fn.wk {P : Program} {f : FuncId} {as as' : List AV} {hin : List (Nat × Blk)} {R : AV → List (Nat × Blk) → Prop} (h : Fn P f as' hin R) (hw : Wks as as') : Fn P f as hin R := fun ρ F w vs h1 h2 => h ρ F w vs h1 (hw _ _ _ _ h2)
/-- a slot of which less is told -/
theorem Sub.wk {st : St} {t : Nat} {c c' : AV} (ht : get? t st.t = some c) (hw : Wk c c') : Sub st { st with t := ins t c' st.t } := fun ρ F a w hR => by
  refine ⟨ρ, F, ⟨hR.heap, hR.size, hR.defers, ?_⟩, Fr.refl _ _ _⟩
  intro k v hv
  rcases mem_ins hv with e | ⟨hv, _⟩
  · cases e
    have := hR.tmps t c (get?_mem ht)
    exact ⟨this.1, hw _ _ _ _ this.2⟩
  · exact hR.tmps k v hv
theorem AW.wk {P c K st st'} {a a' : AV} (t : Nat) (ht : get? t st.t = some a) (hw : Wk a a') (hs : ({ st with t := ins t a' st.t } : St) = st' := by simp only [ins, del, reduceIte, Nat.reduceLT, Nat.reduceEqDiff]; exact rfl) (h : AW P c K st') : AW P c K st := by
  subst hs; exact AW.sub (Sub.wk ht hw) h
theorem AOL.wk {P ops os K st st'} {a a' : AV} (t : Nat) (ht : get? t st.t = some a) (hw : Wk a a') (hs : ({ st with t := ins t a' st.t } : St) = st' := by simp only [ins, del, reduceIte, Nat.reduceLT, Nat.reduceEqDiff]; exact rfl) (h : AOL P ops os K st') : AOL P ops os K st := by
  subst hs; exact AOL.subst_ (Sub.wk ht hw) h
end Go.Proofs.YtjeafkodcmbabaaDoor.E
