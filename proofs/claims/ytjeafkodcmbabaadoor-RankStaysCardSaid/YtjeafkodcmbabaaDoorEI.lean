/- E, a reader of Go's code as the model has it: a contract of a function is proved over values that are told without memory (EI). -/
import Derived.Test.YtjeafkodcmbabaaDoorEH

set_option linter.unusedVariables false
set_option linter.unusedSimpArgs false
open Go
namespace Go.Proofs.YtjeafkodcmbabaaDoor.E
set_option linter.unusedVariables false
set_option linter.unusedSimpArgs false
/-! ## One append among what may stand in any order: all ahead of it in the text stands ahead of it in time -/
theorem draw_anyJ {P : Program} {ops : Array Oper} {m : Nat} {K : St → Prop} {Q : Exit → Act → World → Prop} {ρ0 : Rho} {F0 : Nat → Prop} {w0 : World} {J : (Nat → Bool) → Rho → (Nat → Prop) → Act → World → Prop} {stf : St}
    (hm : m ≤ ops.size) (ht : tailOk ops m = true)
    (step : ∀ (S : Nat → Bool) (ρ : Rho) (F : Nat → Prop) (a : Act) (w : World) (i : Nat) (o : Oper) (N : Act → World → Prop), ops[i]? = some o → i < m → S i = false → (∀ j ∈ dpreds o, S j = true) → Closed ops S → (∀ j, S j = true → j < m) → J S ρ F a w →
      (∀ ρ' F' a' w', J (upd S i) ρ' F' a' w' → Fr ρ F w ρ' F' w' → N a' w') → wpOp P ops Q i N a w)
    (hfin : ∀ (S : Nat → Bool) (ρ : Rho) (F : Nat → Prop) (a : Act) (w : World), (∀ i, S i = decide (i < m)) → J S ρ F a w → Rel ρ F stf a w)
    (hT : AOps P ops (List.range' m (ops.size - m)) K stf)
    (hQ : ∀ st' ρ' F' a' w', K st' → Rel ρ' F' st' a' w' → Fr ρ0 F0 w0 ρ' F' w' → Q .normal a' w') :
    ∀ (fuel : Nat) {listed : Array Bool} {a : Act} {w : World} {ρ : Rho} {F : Nat → Prop}, listed.size = ops.size → unl listed.toList = fuel → Closed ops (ls listed) → (∀ i, ls listed i = true → i < m) →
      J (ls listed) ρ F a w → Fr ρ0 F0 w0 ρ F w → wpAny P .any ops Q fuel listed a w := by
  have hedge : ∀ (i : Nat) (o : Oper), ops[i]? = some o → ∀ j ∈ dpreds o, j < i := by
    intro i o ho j hj
    simp only [tailOk, Bool.and_eq_true] at ht
    have := edgesOk_lt ht.1 i o (by rw [Array.getElem?_toList]; exact ho) j hj
    omega
  have full : ∀ (fuel : Nat) {listed : Array Bool} {a : Act} {w : World} {ρ : Rho} {F : Nat → Prop}, listed.size = ops.size → unl listed.toList = fuel → (∀ i, ls listed i = decide (i < m)) →
      J (ls listed) ρ F a w → Fr ρ0 F0 w0 ρ F w → wpAny P .any ops Q fuel listed a w := by
    intro fuel listed a w ρ F hs hu hl hI hFr
    have hfuel : fuel = ops.size - m := by
      have key : ∀ (l : List Bool) (s : Nat), (∀ (i : Nat) b, l[i]? = some b → b = decide (s + i < m)) → unl l = (s + l.length - m) - (s - m) := by
        intro l
        induction l with
        | nil => intro s _; simp [unl]
        | cons b l ih =>
          intro s h
          have h0 := h 0 b (by simp)
          have h1 := ih (s + 1) (fun i b hb => by have := h (i + 1) b (by simpa using hb); rw [this]; congr 1; apply propext; constructor <;> intro <;> omega)
          simp only [unl, h1, List.length_cons]
          rw [h0]
          by_cases hsm : s + 0 < m
          · rw [if_pos (by simpa using hsm)]; omega
          · rw [if_neg (by simpa using hsm)]; omega
      have := key listed.toList 0 (by
        intro i b hb
        have h1 := hl i
        have hlt : i < listed.size := by have := (List.getElem?_eq_some_iff.1 hb).1; simpa using this
        rw [Nat.zero_add, ← h1]
        simp only [ls, Array.getD_eq_getD_getElem?, ← Array.getElem?_toList, hb]; rfl)
      rw [hu] at this
      simp at this; omega
    subst hfuel
    refine tail_any ht _ (k := m) hs (Nat.le_refl _) (by omega) hl ?_
    exact hT ρ F a w Q (hfin _ ρ F a w hl hI) (fun st' ρ' F' a' w' h1 h2 h3 => hQ st' ρ' F' a' w' h1 h2 (hFr.trans h3))
  intro fuel
  induction fuel with
  | zero =>
    intro listed a w ρ F hs hu hc hlm hI hFr
    refine full 0 hs hu ?_ hI hFr
    intro i
    cases hli : ls listed i with
    | true => have := hlm i hli; simp [this]
    | false =>
      by_cases him : i < m
      · exfalso
        have hlt : i < listed.size := by omega
        have hb : listed.toList[i]? = some listed[i] := by simp [hlt]
        have := unl_zero hu i _ hb
        simp only [ls, Array.getD_eq_getD_getElem?, Array.getElem?_eq_getElem hlt] at hli
        rw [this] at hli
        simp at hli
      · simp [him]
  | succ fuel ih =>
    intro listed a w ρ F hs hu hc hlm hI hFr
    by_cases hfull : ∀ i, ls listed i = decide (i < m)
    · exact full _ hs hu hfull hI hFr
    · obtain ⟨i0, h1, h2⟩ := unl_pos (l := listed.toList) (by omega)
      have hi0 : i0 < listed.size := by have := (List.getElem?_eq_some_iff.1 h1).1; simpa using this
      have hls : ∀ (i : Nat) b, listed.toList[i]? = some b → ls listed i = b := by
        intro i b hb; simp only [ls, Array.getD_eq_getD_getElem?, ← Array.getElem?_toList, hb]; rfl
      obtain ⟨o0, ho0⟩ : ∃ o, ops[i0]? = some o := ⟨_, Array.getElem?_eq_getElem (by omega)⟩
      have hr0 : i0 ∈ Region.ready .any ops listed := (ready_iff hs).2 ⟨o0, ho0, hls _ _ h1, fun j hj => hls _ _ (h2 j (hedge i0 o0 ho0 j hj))⟩
      refine ⟨fun h0 => (by rw [h0] at hr0; cases hr0), ?_⟩
      intro i hi
      obtain ⟨o, ho, hli, hp⟩ := (ready_iff hs).1 hi
      have him : i < m := by
        rcases Nat.lt_or_ge i m with h | h
        · exact h
        · exfalso
          apply hfull
          have h3 := tail_all ht hc ho h hp
          intro j
          cases hlj : ls listed j with
          | true => have := hlm j hlj; simp [this]
          | false =>
            by_cases hjm : j < m
            · have := h3 j (by omega); rw [hlj] at this; cases this
            · simp [hjm]
      refine step _ ρ F a w i o _ ho him hli hp hc hlm hI ?_
      intro ρ' F' a' w' hI' hFr'
      have hlt : i < listed.size := by have := (Array.getElem?_eq_some_iff.1 ho).1; omega
      have hset := ls_set hlt
      refine ih (by simpa using hs) ?_ ?_ ?_ (by rw [hset]; exact hI') (hFr.trans hFr')
      · have hb : listed.toList[i]? = some false := by
          have h9 : listed.toList[i]? = some listed[i] := by simp [hlt]
          rw [h9]; congr 1
          have := hls i _ h9
          rw [← this]; exact hli
        have := unl_set hb
        simp only [Array.toList_setIfInBounds]
        omega
      · rw [hset]
        intro j o' ho' hj k hk
        simp only [upd, Bool.or_eq_true, beq_iff_eq] at hj ⊢
        rcases hj with hj | rfl
        · exact .inl (hc j o' ho' hj k hk)
        · rw [ho] at ho'; cases ho'; exact .inl (hp k hk)
      · rw [hset]
        intro j hj
        simp only [upd, Bool.or_eq_true, beq_iff_eq] at hj
        rcases hj with hj | rfl
        · exact hlm j hj
        · exact him

mutual
theorem kill_idem (l : Nat) : ∀ c : AV, kill l (kill l c) = kill l c
  | .ptr k off => by simp only [kill]; split <;> simp_all [kill]
  | .ref k off n z => by simp only [kill]; split <;> simp_all [kill]
  | .agg cs => by simp only [kill, kills_idem l cs]
  | .tup cs => by simp only [kill, kills_idem l cs]
  | .clo f cs => by simp only [kill, kills_idem l cs]
  | .ifc t c => by simp only [kill, kill_idem l c]
  | .val v => by simp only [kill]
  | .sl n cs => by simp only [kill]
  | .fptr cs => by simp only [kill]
  | .emp => by simp only [kill]
  | .dead => by simp only [kill]
theorem kills_idem (l : Nat) : ∀ cs : List AV, kills l (kills l cs) = kills l cs
  | [] => rfl
  | c :: cs => by simp only [kills, kill_idem l c, kills_idem l cs]
end
theorem mem_mapT' {f : AV → AV} {t : Nat} {u : AV} : ∀ {l : List (Nat × AV)}, (t, u) ∈ l → (t, f u) ∈ mapT f l
  | [], h => by cases h
  | (k, x) :: r, h => by
    simp only [mapT]
    rcases List.mem_cons.1 h with h | h
    · cases h; simp
    · exact List.mem_cons_of_mem _ (mem_mapT' h)
theorem mem_mapH' {l k : Nat} {C : Blk} : ∀ {h : List (Nat × Blk)}, (k, C) ∈ h → (k, if C.boxy then { C with cs := kills l C.cs } else C) ∈ mapH l h
  | [], h => by cases h
  | (j, x) :: r, h => by
    simp only [mapH]
    rcases List.mem_cons.1 h with h | h
    · cases h; simp
    · exact List.mem_cons_of_mem _ (mem_mapH' h)
theorem mem_del' {α : Type} {k : Nat} {p : Nat × α} : ∀ {l : List (Nat × α)}, p ∈ l → p.1 ≠ k → p ∈ del k l
  | [], h, _ => by cases h
  | (j, x) :: r, h, hk => by
    simp only [del]
    rcases List.mem_cons.1 h with rfl | h
    · rw [if_neg hk]; simp
    · split
      · exact mem_del' h hk
      · exact List.mem_cons_of_mem _ (mem_del' h hk)
/-- less is told of what leads to a block, which stays -/
theorem Rel.hide {ρ F st a w} (h : Rel ρ F st a w) (l : Nat) : Rel ρ F (st.drop l) a w := by
  have hd := h.drop l
  have hup : ∀ k x, rdel l ρ k = some x → ρ k = some x := by
    intro k x hx
    simp only [rdel] at hx
    split at hx
    · cases hx
    · exact hx
  refine ⟨⟨?_, h.heap.inj, h.heap.apart, h.heap.lt, h.heap.flt, h.heap.glb⟩, h.size, h.defers, ?_⟩
  · intro k B hB
    rcases hd.heap.blk k B hB with ⟨h0, h1⟩ | ⟨r, m, c, h1, h2, h3, vs, h4, h5⟩
    · refine .inl ⟨h0, ?_⟩
      have hB' : (k, B) ∈ mapH l (del l st.h) := hB
      obtain ⟨C, hC, _⟩ := mem_mapH hB'
      have hne := (mem_del hC).2
      simp only [rdel] at h1
      rw [if_neg hne] at h1
      exact h1
    · refine .inr ⟨r, m, c, hup _ _ h1, h2, h3, vs, ?_, h5⟩
      split
      · rename_i hb; simp only [hb, if_true] at h4; exact VRs.keep (fun _ h => h) (fun _ _ _ _ h => h) hup _ _ h4
      · rename_i hb; simp only [hb, Bool.false_eq_true, if_false] at h4; exact h4
  · intro t v hv
    obtain ⟨h1, h2⟩ := hd.tmps t v hv
    exact ⟨h1, VR.keep (fun _ h => h) (fun _ _ _ _ h => h) hup _ _ h2⟩

theorem partT_app {S : Nat → Bool} : ∀ {os : List Oper} {vs r : List (AV × Option Blk)} {s : Nat}, (∀ j, s + vs.length ≤ j → S j = false) → partT S s os (vs ++ r) = partT S s os vs
  | [], vs, r, s, h => by cases vs <;> simp [partT]
  | o :: os, [], [], s, h => rfl
  | o :: os, [], u :: r, s, h => by
    have h0 := h s (by simp)
    have := partT_app (S := S) (os := os) (vs := []) (r := r) (s := s + 1) (fun j hj => h j (by simp at hj ⊢; omega))
    simp only [List.nil_append] at this
    simp only [List.nil_append, partT, h0, this, Bool.false_eq_true, if_false]
  | o :: os, u :: vs, r, s, h => by
    simp only [List.cons_append, partT]
    rw [partT_app (os := os) (vs := vs) (s := s + 1) fun j hj => h j (by simp at hj ⊢; omega)]
theorem DFact.app {P : Program} {st : St} {ops : Array Oper} {os : List Oper} {vs r : List (AV × Option Blk)} {i : Nat} {o : Oper} {v : AV × Option Blk} (hp : ∀ j ∈ dpreds o, j < vs.length) (h : DFact P st ops os vs i o v) : DFact P st ops os (vs ++ r) i o v := by
  have hview : ∀ L, dViewL st os (vs ++ r) L o = dViewL st os vs L o := by
    intro L
    simp only [dViewL]
    rw [partT_app]
    intro j hj
    simp only [List.contains_eq_mem, decide_eq_false_iff_not]
    intro hm
    have := hp j hm
    omega
  unfold DFact at h ⊢
  simp only [hview]
  exact h
theorem draw_step3 {P : Program} {ops : Array Oper} {st : St} {os : List Oper} {vs : List (AV × Option Blk)} {S : Nat → Bool} {ρ : Rho} {F : Nat → Prop} {a : Act} {w : World} {i : Nat} {o : Oper} {v : AV × Option Blk}
    (hnd : (dsts os).Nodup) (hno : ∀ (j : Nat) (o' : Oper) (v' : AV × Option Blk) (d : Tmp), os[j]? = some o' → vs[j]? = some v' → o'.dst = some d → v'.2.isSome = true → ∀ C, (lab d, C) ∉ st.h)
    (ho' : ops[i]? = some o) (ho : os[i]? = some o) (hv : vs[i]? = some v) (hS : S i = false) (hp : ∀ j ∈ dpreds o, S j = true) (hcl0 : ∀ (j : Nat) (o' : Oper), os[j]? = some o' → S j = true → ∀ k ∈ dpreds o', S k = true) {stv : St} {vsv : List (AV × Option Blk)} (hnn : stv.n = st.n) (hview : ∀ L, LateOk stv os i L → Rel ρ F (dViewL stv os vsv L o) a w) (hfact : DFact P stv ops os vsv i o v) (hI : Inv st os vs S ρ F a w)
    {N : Act → World → Prop} {Q : Exit → Act → World → Prop} (hN : ∀ ρ' F' a' w', Inv st os vs (upd S i) ρ' F' a' w' → Fr ρ F w ρ' F' w' → N a' w') : wpOp P ops Q i N a w := by
  obtain ⟨hdn, L, hL, hfact⟩ := hfact
  rw [hnn] at hdn
  have hvw := hview L hL
  have hnew' : ∀ (ρ' : Rho), (∀ l, (∀ d, o.dst = some d → v.2.isSome = true → l ≠ lab d) → ρ' l = ρ l) → ∀ (j : Nat) (o' : Oper) (v' : AV × Option Blk) (d : Tmp), os[j]? = some o' → vs[j]? = some v' → upd S i j = false → o'.dst = some d → v'.2.isSome = true → ρ' (lab d) = none := by
    intro ρ' hρ j o' v' d h1 h2 h3 h4 h5
    simp only [upd, Bool.or_eq_false_iff, beq_eq_false_iff_ne, ne_eq] at h3
    rw [hρ (lab d) ?_]
    · exact hI.new j o' v' d h1 h2 h3.1 h4 h5
    · intro d' hd' _ e
      have := lab_inj e
      subst this
      exact h3.2 (dsts_inj hnd h1 ho h4 hd')
  have hother : ∀ (d : Tmp), o.dst = some d → v.2.isSome = true → ∀ C, (lab d, C) ∉ (dSt st os vs S).h := by
    intro d hd hb C hC
    simp only [dSt, List.mem_append] at hC
    rcases hC with hC | hC
    · obtain ⟨j, o', v', d', h1, h2, h3, h4, h5, h6⟩ := mem_partH.1 hC
      have := lab_inj h5
      subst this
      have := dsts_inj hnd h1 ho h4 hd
      subst this
      rw [Nat.zero_add, hS] at h3
      cases h3
    · exact hno i o v d ho hv hd hb C hC
  -- nothing is made
  have plain : ∀ {u : Value}, v.2 = none → VR ρ F w v.1 u → N (a.put o.dst u) w := by
    intro u hv2 hu
    refine hN ρ F _ w (Inv.finish hnd ho hv hdn (hI.rel.subset rfl (fun _ h => h) ?_) hu (hnew' ρ fun _ _ => rfl)) (Fr.refl _ _ _)
    intro p hp'
    cases hd : o.dst <;> simpa [bentry?, hv2, hd] using hp'
  rcases hfact with ⟨hg, rfl⟩ | ⟨hg, hfact⟩
  · have hw := gOk_rel hvw hg
    simp only [wpOp, ho', hw, Bool.false_eq_true, if_false]
    exact plain rfl (by simp only [VR]; rfl)
  · have hw := gOk_rel hvw hg
    simp only [wpOp, ho', hw, if_true]
    refine .inl ?_
    rcases hfact with hd | ⟨g, as, hc, hcl, hv2, hF⟩
    · unfold dEval at hd
      split at hd
      · rename_i e d hop hdst
        simp only [Option.bind_eq_some_iff] at hd
        obtain ⟨zs, hz, hd⟩ := hd
        split at hd
        · rename_i hone
          cases hd
          obtain ⟨zv, hr, rfl⟩ := run_tZero (w := w) hz
          have hrun : (execOp a.eval o).run P w = .ok (.value (.pointer (some ⟨w.heap.size, 0, none⟩))) (w.alloc (.cells zv.cells e)) := by
            simp [execOp, hop, Instr.alloc, hr, newVar, newRow]
          simp only [Oper.wp, hrun, Oper.upon]
          have hL := hI.new i o _ d ho hv hS hdst rfl
          obtain ⟨hA, hFr⟩ := hI.rel.add (Grew.alloc w zv.cells e) hL (hother d hdst rfl) (by simp [lab]) (B := ⟨e, true, zv.cells.toList.map .val⟩) rfl (vs := zv.cells.toList) (vals_get _) (by simp) (by
            intro j u hu
            exact ⟨by simpa using hu, List.all_eq_true.1 hone u (List.mem_of_getElem? hu)⟩)
          refine hN _ F _ _ (Inv.finish hnd ho hv hdn (hA.subset rfl (fun _ h => h) (by intro p hp'; simpa [bentry?, hdst] using hp')) ?_ (hnew' _ ?_)) hFr
          · simp only [VR]; exact ⟨_, _, by simp [rset]; rfl, rfl⟩
          · intro l hl; simp only [rset]; rw [if_neg (hl d hdst rfl)]
        · cases hd
      · rename_i t l c d hop hdst
        simp only [Option.bind_eq_some_iff, Option.map_eq_some_iff] at hd
        obtain ⟨lv, hlv, cv, hcv, li, hli, ci, hci, ⟨e, z, cs⟩, hmk, rfl⟩ := hd
        obtain ⟨kl, hkl⟩ := intOf_rel hli (hvw.get hlv)
        obtain ⟨kc, hkc⟩ := intOf_rel hci (hvw.get hcv)
        obtain ⟨u, w', hr, hms⟩ := cMake_run (kl := kl) (kc := kc) F w hmk
        obtain ⟨cap, arr, us, rfl, hgr, hvu, hle, hcc, h1, h2, h3⟩ := hms.is
        have hrun : (execOp a.eval o).run P w = .ok (.value (.slice (some ⟨w.heap.size, 0, none⟩) li.toNat cap)) w' := by
          simp only [execOp, hop, hkl, hkc, Sem.run_bind, hr, Result.andThen, Sem.run_pure]
        simp only [Oper.wp, hrun, Oper.upon]
        have hL := hI.new i o _ d ho hv hS hdst rfl
        obtain ⟨hA, hFr⟩ := hI.rel.add hgr hL (hother d hdst rfl) (by simp [lab]) (B := ⟨e, false, cs⟩) rfl (vs := us) hvu hle hcc
        refine hN _ F _ _ (Inv.finish hnd ho hv hdn (hA.subset rfl (fun _ h => h) (by intro p hp'; simpa [bentry?, hdst] using hp')) ?_ (hnew' _ ?_)) hFr
        · simp only [VR]; exact .inl ⟨w.heap.size, _, cap, by simp [rset]; rfl, rfl, h1, by simpa using h2, h3⟩
        · intro l hl; simp only [rset]; rw [if_neg (hl d hdst rfl)]
      · rename_i t n ps d hop hdst
        simp only [Option.bind_eq_some_iff] at hd
        obtain ⟨pvs, hpv, hd⟩ := hd
        split at hd
        · rename_i hf
          simp only [Option.map_eq_some_iff] at hd
          obtain ⟨⟨e, z, cs⟩, hcb, rfl⟩ := hd
          obtain ⟨u, w', hr, hms⟩ := cBuild_run hvw hpv hf hcb
          obtain ⟨cap, arr, us, rfl, hgr, hvu, hle, hcc, h1, h2, h3⟩ := hms.is
          have hrun : (execOp a.eval o).run P w = .ok (.value (.slice (some ⟨w.heap.size, 0, none⟩) n cap)) w' := by
            simp only [execOp, hop, Sem.run_bind, hr, Result.andThen, Sem.run_pure]
          simp only [Oper.wp, hrun, Oper.upon]
          -- the new block is frozen
          have hf0 : Fr (fun _ => none) F w (fun _ => none) (fun b => F b ∨ b = w.heap.size) w' := {
            os := hgr.os, tape := hgr.tape, output := hgr.output, size := by rw [hgr.size]; omega
            block := fun k hk _ => hgr.old hk, froz := fun b hb => .inl hb
            froz' := fun b hb => by rcases hb with hb | rfl; exact .inl hb; exact .inr (.inr (Nat.le_refl _))
            own := fun _ _ _ h => by cases h
            same := fun _ _ _ _ h => by cases h
            gone := fun _ _ h => h }
          obtain ⟨hA, hFr⟩ := hI.rel.ext hf0 (by intro b hb; rw [hgr.size]; rcases hb with hb | rfl; have := hI.rel.heap.flt b hb; omega; omega)
          refine hN _ _ _ _ (Inv.finish hnd ho hv hdn (hA.subset rfl (fun _ h => h) (by intro p hp'; simpa [bentry?, hdst] using hp')) ?_ (hnew' _ fun _ _ => rfl)) hFr
          simp only [VR]
          refine ⟨_, cap, us, rfl, h1, h3, VRs.keep (fun b hb => .inl hb) (fun b off v _ h => hgr.cell h) (fun _ _ h => h) _ _ hvu, ?_, by simp, by intro a h _; cases h; rfl⟩
          refine .inr ⟨_, _, rfl, .inr rfl, ?_⟩
          intro j u hu
          obtain ⟨h4, h5⟩ := hcc j u hu
          exact ⟨by rw [hgr.new.cell]; simpa using h4, h5⟩
        · cases hd
      · simp only [Option.map_eq_some_iff] at hd
        obtain ⟨v0, hpv, rfl⟩ := hd
        obtain ⟨u, hr, hvr⟩ := pureOp_run hvw hpv
        simp only [Oper.wp, hr, Oper.upon]
        exact plain rfl hvr
    · obtain ⟨xs, hrun, hxs⟩ := callOf_run hvw hc hcl
      simp only [Oper.wp, hrun, Oper.upon]
      refine (hF.run hvw.heap hxs).mono ?_
      rintro e w' ⟨u, ρ', F', rfl, hvr, hfr', hlt⟩
      obtain ⟨hA, hFr⟩ := hI.rel.ext hfr' hlt
      refine hN ρ F' _ w' (Inv.finish hnd ho hv hdn (hA.subset rfl (fun _ h => h) ?_) (hvr _) (hnew' ρ fun _ _ => rfl)) hFr
      intro p hp'
      cases hd : o.dst <;> simpa [bentry?, hv2, hd] using hp'

/-- a literal without elements: nothing, and no room -/
def EFact (P : Program) (o : Oper) (v : AV × Option Blk) : Prop := ∃ t e z, o.op = .buildSlice t 0 #[] ∧ o.guard = none ∧ v = (.emp, none) ∧ tSlice P t = some e ∧ tSz P e = some z
theorem emp_step {P : Program} {ops : Array Oper} {st : St} {os : List Oper} {vs : List (AV × Option Blk)} {S : Nat → Bool} {ρ : Rho} {F : Nat → Prop} {a : Act} {w : World} {i : Nat} {o : Oper} {v : AV × Option Blk}
    (hnd : (dsts os).Nodup) (ho' : ops[i]? = some o) (ho : os[i]? = some o) (hv : vs[i]? = some v) (hdn : dOk st.n o.dst = true) (hf : EFact P o v) (hI : Inv st os vs S ρ F a w)
    {N : Act → World → Prop} {Q : Exit → Act → World → Prop} (hN : ∀ ρ' F' a' w', Inv st os vs (upd S i) ρ' F' a' w' → Fr ρ F w ρ' F' w' → N a' w') : wpOp P ops Q i N a w := by
  obtain ⟨t, e, z, hop, hg, rfl, he, hz⟩ := hf
  have hu := tSlice_u he
  have hw := gOk_rel hI.rel (show gOk ops (dSt st os vs S) o = some true by simp [gOk, hg])
  simp only [wpOp, ho', hw, if_true]
  refine .inl ?_
  have hrun : (execOp a.eval o).run P w = .ok (.value (.slice (some ⟨w.heap.size, 0, none⟩) 0 0)) (w.alloc (.cells #[] e)) := by
    simp [execOp, hop, Instr.buildSlice, run_und hu, run_tSz hz, Result.andThen, newRow, Instr.fill, show Array.range 0 = #[] from by decide]
  simp only [Oper.wp, hrun, Oper.upon]
  have hgr : Grew w (w.alloc (.cells #[] e)) #[] e := Grew.alloc _ _ _
  have hf0 : Fr (fun _ => none) F w (fun _ => none) F (w.alloc (.cells #[] e)) := {
    os := hgr.os, tape := hgr.tape, output := hgr.output, size := by rw [hgr.size]; omega
    block := fun k hk _ => hgr.old hk, froz := fun b hb => hb
    froz' := fun b hb => .inl hb
    own := fun _ _ _ h => by cases h
    same := fun _ _ _ _ h => by cases h
    gone := fun _ _ h => h }
  obtain ⟨hA, hFr⟩ := hI.rel.ext hf0 (by intro b hb; rw [hgr.size]; have := hI.rel.heap.flt b hb; omega)
  refine hN _ _ _ _ (Inv.finish hnd ho hv hdn (hA.subset rfl (fun _ h => h) (by intro p hp'; cases hd : o.dst <;> simpa [bentry?, hd] using hp')) ?_ ?_) hFr
  · simp only [VR]; exact ⟨_, rfl⟩
  · intro j o' v' d h1 h2 h3 h4 h5
    simp only [upd, Bool.or_eq_false_iff] at h3
    exact hI.new j o' v' d h1 h2 h3.1 h4 h5
def DFactE (P : Program) (st : St) (ops : Array Oper) (os : List Oper) (vs : List (AV × Option Blk)) (i : Nat) (o : Oper) (v : AV × Option Blk) : Prop := DFact P st ops os vs i o v ∨ (dOk st.n o.dst = true ∧ EFact P o v)
theorem DFactE.app {P : Program} {st : St} {ops : Array Oper} {os : List Oper} {vs r : List (AV × Option Blk)} {i : Nat} {o : Oper} {v : AV × Option Blk} (hp : ∀ j ∈ dpreds o, j < vs.length) (h : DFactE P st ops os vs i o v) : DFactE P st ops os (vs ++ r) i o v := by
  rcases h with h | h
  · exact .inl (h.app hp)
  · exact .inr h

def ancOk (ops : Array Oper) (i : Nat) : Bool := (masks ops.toList []).getD i 0 % 2 ^ i == 2 ^ i - 1
theorem anc_all {ops : Array Oper} {i : Nat} (h : ancOk ops i = true) {S : Nat → Bool} (hc : Closed ops S) {o : Oper} (ho : ops[i]? = some o) (hS : S i = true) : ∀ j, j < i → S j = true := by
  intro j hj
  simp only [ancOk, beq_iff_eq] at h
  have hb : ((masks ops.toList []).getD i 0).testBit j = true := by
    have h3 : ((masks ops.toList []).getD i 0 % 2 ^ i).testBit j = true := by
      rw [h, Nat.testBit_two_pow_sub_one]; simpa using hj
    rw [Nat.testBit_mod_two_pow] at h3
    simp only [Bool.and_eq_true] at h3
    exact h3.2
  exact masks_bits ops.toList (fun i => S i = true) (fun i o ho hi j hj => hc i o (by rw [← Array.getElem?_toList]; exact ho) hi j hj) ops.toList [] [] (by simp) rfl (by simp) i o (by rw [Array.getElem?_toList]; exact ho) (hc i o ho hS) j hb

/-- behind so many, but for those that float -/
def AncP (ops : Array Oper) (fl : Nat → Bool) (i : Nat) : Prop := ∀ S : Nat → Bool, Closed ops S → ∀ o : Oper, ops[i]? = some o → S i = true → ∀ j, j < i → fl j = false → S j = true
theorem AncP.all {ops : Array Oper} {i : Nat} (h : ancOk ops i = true) : AncP ops (fun _ => false) i := fun S hc o ho hS j hj _ => anc_all h hc ho hS j hj
def bitsOf (fls : List (Nat × Nat)) : Nat := fls.foldl (fun b p => b ||| 2 ^ p.1) 0
def ancF (ops : Array Oper) (fls : List (Nat × Nat)) (i : Nat) : Bool := ((masks ops.toList []).getD i 0 ||| bitsOf fls) % 2 ^ i == 2 ^ i - 1
theorem bitsOf_iff {fls : List (Nat × Nat)} {j : Nat} (h : (bitsOf fls).testBit j = true) : ∃ p ∈ fls, p.1 = j := by
  have key : ∀ (l : List (Nat × Nat)) (b : Nat), (l.foldl (fun b p => b ||| 2 ^ p.1) b).testBit j = true → b.testBit j = true ∨ ∃ p ∈ l, p.1 = j := by
    intro l
    induction l with
    | nil => intro b h; exact .inl h
    | cons p l ih =>
      intro b h
      simp only [List.foldl_cons] at h
      rcases ih _ h with h | ⟨q, hq, e⟩
      · rw [Nat.testBit_or, Bool.or_eq_true] at h
        rcases h with h | h
        · exact .inl h
        · rw [Nat.testBit_two_pow] at h; exact .inr ⟨p, by simp, by simpa using h⟩
      · exact .inr ⟨q, List.mem_cons_of_mem _ hq, e⟩
  rcases key fls 0 h with h | h
  · simp at h
  · exact h
theorem AncP.flo {ops : Array Oper} {fls : List (Nat × Nat)} {i : Nat} (h : ancF ops fls i = true) : AncP ops (fun j => fls.any fun p => p.1 == j) i := by
  intro S hc o ho hS j hj hf
  simp only [ancF, beq_iff_eq] at h
  have h3 : (((masks ops.toList []).getD i 0 ||| bitsOf fls) % 2 ^ i).testBit j = true := by
    rw [h, Nat.testBit_two_pow_sub_one]; simpa using hj
  rw [Nat.testBit_mod_two_pow, Bool.and_eq_true, Nat.testBit_or, Bool.or_eq_true] at h3
  rcases h3.2 with hb | hb
  · exact masks_bits ops.toList (fun i => S i = true) (fun i o ho hi j hj => hc i o (by rw [← Array.getElem?_toList]; exact ho) hi j hj) ops.toList [] [] (by simp) rfl (by simp) i o (by rw [Array.getElem?_toList]; exact ho) (hc i o ho hS) j hb
  · obtain ⟨p, hp, e⟩ := bitsOf_iff hb
    have : (fls.any fun p => p.1 == j) = true := List.any_eq_true.2 ⟨p, hp, by simpa using e⟩
    rw [show (fls.any fun p => p.1 == j) = false from hf] at this; cases this

structure AppF (P : Program) (st : St) (hp : List (Nat × Blk)) (os : List Oper) (vs1 : List (AV × Option Blk)) (o : Oper) (l : Nat) (B' : Blk) (v0 : AV) : Prop where
  dst : dOk st.n o.dst = true
  guard : o.guard = none
  op : ∃ sx xx s x, (dViewL st os vs1 [] o).eval sx = some s ∧ (dViewL st os vs1 [] o).eval xx = some x ∧ ∀ σ : St, σ.eval sx = some s → σ.eval xx = some x → (∀ C, get? l hp = some C → get? l σ.h = some C) → memOp P σ o.dst o.op = some (v0, (σ.drop l).new l B')

theorem get?_front {α : Type} {k : Nat} {x : α} : ∀ {a b : List (Nat × α)}, get? k a = some x → get? k (a ++ b) = some x
  | [], b, h => by cases h
  | (j, y) :: a, b, h => by
    simp only [List.cons_append, get?] at h ⊢
    split
    · rename_i e; rw [if_pos e] at h; exact h
    · rename_i e; rw [if_neg e] at h; exact get?_front h
theorem eval_front {n : Nat} {t t' : List (Nat × AV)} {h h' : List (Nat × Blk)} {x : Operand} {v : AV} (e : (⟨n, t, h⟩ : St).eval x = some v) : (⟨n, t ++ t', h'⟩ : St).eval x = some v := by
  cases x <;> simp only [St.eval] at e ⊢
  · exact get?_front e
  · exact e
  · exact e
  · exact e


def klistTo : Nat → Nat → List (AV × Option Blk) → List (AV × Option Blk)
  | 0, _, vs => vs
  | _ + 1, _, [] => []
  | i + 1, l, v :: vs => (kill l v.1, v.2) :: klistTo i l vs
theorem klistTo_lt {l : Nat} : ∀ {i j : Nat} {vs : List (AV × Option Blk)}, j < i → (klistTo i l vs)[j]? = (vs[j]?).map fun v => (kill l v.1, v.2)
  | 0, j, vs, h => absurd h (Nat.not_lt_zero _)
  | i + 1, j, [], h => by simp [klistTo]
  | i + 1, 0, v :: vs, h => by simp [klistTo]
  | i + 1, j + 1, v :: vs, h => by simp only [klistTo, List.getElem?_cons_succ]; exact klistTo_lt (by omega)
theorem klistTo_ge {l : Nat} : ∀ {i j : Nat} {vs : List (AV × Option Blk)}, i ≤ j → (klistTo i l vs)[j]? = vs[j]?
  | 0, j, vs, h => rfl
  | i + 1, j, [], h => by simp [klistTo]
  | i + 1, 0, v :: vs, h => absurd h (Nat.not_succ_le_zero _)
  | i + 1, j + 1, v :: vs, h => by simp only [klistTo, List.getElem?_cons_succ]; exact klistTo_ge (by omega)
theorem klistTo_len {l : Nat} : ∀ (i : Nat) (vs : List (AV × Option Blk)), (klistTo i l vs).length = vs.length
  | 0, vs => rfl
  | i + 1, [] => rfl
  | i + 1, v :: vs => by simp only [klistTo, List.length_cons, klistTo_len i vs]

/-- hidden one after the other -/
def hides (lb : Nat → Nat) (st : St) (p : Nat) : Nat → St
  | 0 => st
  | k + 1 => (hides lb st p k).drop (lb (p + k))
theorem Rel.hides {ρ F st a w} {lb : Nat → Nat} (h : Rel ρ F st a w) (p : Nat) : ∀ k, Rel ρ F (Go.Proofs.YtjeafkodcmbabaaDoor.E.hides lb st p k) a w
  | 0 => h
  | k + 1 => (Rel.hides h p k).hide _
theorem hides_n {lb : Nat → Nat} {st : St} {p : Nat} : ∀ k, (hides lb st p k).n = st.n
  | 0 => rfl
  | k + 1 => hides_n k
theorem mapH_sub {l : Nat} {h h' : List (Nat × Blk)} (hs : ∀ p ∈ h, p ∈ h') : ∀ p ∈ mapH l (del l h), p ∈ mapH l (del l h') := by
  rintro ⟨k, C⟩ hp
  obtain ⟨D, hD, rfl⟩ := mem_mapH hp
  obtain ⟨hD, hne⟩ := mem_del hD
  exact mem_mapH' (mem_del' (hs _ hD) hne)
theorem mapT_sub {f : AV → AV} {h h' : List (Nat × AV)} (hs : ∀ p ∈ h, p ∈ h') : ∀ p ∈ mapT f h, p ∈ mapT f h' := by
  rintro ⟨k, C⟩ hp
  obtain ⟨D, hD, rfl⟩ := mem_mapT hp
  exact mem_mapT' (hs _ hD)
theorem hides_h {lb : Nat → Nat} {st st' : St} {p : Nat} (hs : ∀ q ∈ st.h, q ∈ st'.h) : ∀ k, ∀ q ∈ (hides lb st p k).h, q ∈ (hides lb st' p k).h
  | 0 => hs
  | k + 1 => mapH_sub (hides_h hs k)
def blks (lb : Nat → Nat) (B' : Nat → Blk) : Nat → List (Nat × Blk)
  | 0 => []
  | q + 1 => (lb q, B' q) :: del (lb q) (blks lb B' q)
theorem mem_blks {lb : Nat → Nat} {B' : Nat → Blk} {p : Nat × Blk} : ∀ {q : Nat}, p ∈ blks lb B' q → ∃ d, d < q ∧ p = (lb d, B' d)
  | 0, h => by cases h
  | q + 1, h => by
    rcases List.mem_cons.1 h with h | h
    · exact ⟨q, by omega, h⟩
    · obtain ⟨d, hd, e⟩ := mem_blks (mem_del h).1; exact ⟨d, by omega, e⟩
theorem hsort {cut : Nat → Nat} {C : Nat} (hcs : ∀ q, q + 1 < C → cut q < cut (q + 1)) : ∀ (k d : Nat), d + k + 1 < C → cut d < cut (d + k + 1)
  | 0, d, h => hcs d h
  | k + 1, d, h => Nat.lt_trans (hsort hcs k d (by omega)) (hcs (d + k + 1) h)

theorem AW.drawC {P : Program} {id : Nat} {ops : Array Oper} {K : Exit → St → Prop} {st : St} (hmix : P.follows .mixedOrders = true) {m C : Nat} {cut lb : Nat → Nat} {B' : Nat → Blk} {v0 : Nat → AV} {sv : Nat → St} {vs : Nat → List (AV × Option Blk)} (hm : m ≤ ops.size) (ht : tailOk ops m = true)
    (hnd : (dsts (ops.toList.take m)).Nodup) (hcm : ∀ q, q < C → cut q < m) (hcs : ∀ q, q + 1 < C → cut q < cut (q + 1)) (fl : Nat → Bool) (hflc : ∀ q, q < C → fl (cut q) = false) (hanc : ∀ q, q < C → AncP ops fl (cut q))
    (hsv0 : sv 0 = st) (hsv : ∀ q, q < C → sv (q + 1) = (sv q).drop (lb q)) (hvl : (vs 0).length = m) (hvn : ∀ v ∈ vs 0, v.2 = none) (hvs : ∀ q, q < C → vs (q + 1) = klistTo (cut q) (lb q) (vs q))
    (hinv : ∀ (q j : Nat) (v : AV × Option Blk), q < C → cut q < j → (∀ d, d < C → j ≠ cut d) → (vs q)[j]? = some v → kill (lb q) v.1 = v.1) (hv0 : ∀ q, q < C → (vs q)[cut q]? = some (v0 q, none))
    (hbx : ∀ q, q < C → (B' q).boxy = false)
    (happ : ∀ (q : Nat) (o : Oper), q < C → (ops.toList.take m)[cut q]? = some o → AppF P (sv q) (blks lb B' q ++ (sv q).h) (ops.toList.take m) (vs q) o (lb q) (B' q) (v0 q))
    (f : ∀ (c i : Nat) (o : Oper) (v : AV × Option Blk), c ≤ C → (∀ d, d < c → cut d < i) → (∀ d, c ≤ d → d < C → i < cut d) → (ops.toList.take m)[i]? = some o → (vs c)[i]? = some v → DFactE P (sv c) ops (ops.toList.take m) (vs c) i o v)
    (hfl : ∀ (c i : Nat) (o : Oper) (v : AV × Option Blk), c ≤ C → fl i = true → (ops.toList.take m)[i]? = some o → (vs c)[i]? = some v → DFactE P (sv c) ops (ops.toList.take m) (vs c) i o v)
    (hT : AOps P ops (List.range' m (ops.size - m)) (K .normal) (dSt ⟨st.n, (sv C).t, blks lb B' C ++ (sv C).h⟩ (ops.toList.take m) (vs C) fun _ => true)) : AW P (.region id ops true) K st := by
  intro ρ F a w Q hR hQ
  refine wp_region_any hmix ?_
  have hw1 : Rel ρ F st a { w with drawn := w.drawn + 1 } :=
    ⟨⟨fun l B hB => by
        rcases hR.heap.blk l B hB with h | ⟨r, m, c, h1, h2, h3, us, h4, h5⟩
        · exact .inl h
        · exact .inr ⟨r, m, c, h1, h2, h3, us, VRs.keep (w := w) (w' := { w with drawn := w.drawn + 1 }) (fun _ h => h) (fun _ _ _ _ h => h) (fun _ _ h => h) _ _ h4, h5⟩, hR.heap.inj, hR.heap.apart, hR.heap.lt, hR.heap.flt, hR.heap.glb⟩, hR.size, hR.defers,
      fun t v hv => ⟨(hR.tmps t v hv).1, VR.keep (w := w) (w' := { w with drawn := w.drawn + 1 }) (fun _ h => h) (fun _ _ _ _ h => h) (fun _ _ h => h) _ _ (hR.tmps t v hv).2⟩⟩
  have hFd : Fr ρ F w ρ F { w with drawn := w.drawn + 1 } :=
    ⟨rfl, rfl, rfl, Nat.le_refl _, fun _ _ _ => rfl, fun _ h => h, fun _ h => .inl h, fun l r m h => .inl ⟨l, m, h⟩, fun _ _ x y h k => by rw [h] at k; exact Option.some.inj k, fun _ _ h => h⟩
  generalize hos : ops.toList.take m = os at *
  have hosget : ∀ i, i < m → os[i]? = ops[i]? := by
    intro i hi; rw [← hos, List.getElem?_take, if_pos hi, Array.getElem?_toList]
  have hlen : ∀ q, q ≤ C → (vs q).length = m := by
    intro q
    induction q with
    | zero => intro _; exact hvl
    | succ q ih => intro h; rw [hvs q h, klistTo_len, ih (by omega)]
  have hnone : ∀ q, q ≤ C → ∀ (i : Nat) (v : AV × Option Blk), (vs q)[i]? = some v → v.2 = none := by
    intro q
    induction q with
    | zero => intro _ i v h; exact hvn v (List.mem_of_getElem? h)
    | succ q ih =>
      intro hq i v h
      rw [hvs q hq] at h
      rcases Nat.lt_or_ge i (cut q) with hi | hi
      · rw [klistTo_lt hi, Option.map_eq_some_iff] at h
        obtain ⟨u, hu, rfl⟩ := h
        exact ih (by omega) i u hu
      · rw [klistTo_ge hi] at h
        exact ih (by omega) i v h
  have hsn : ∀ q, q ≤ C → (sv q).n = st.n := by
    intro q
    induction q with
    | zero => intro _; rw [hsv0]
    | succ q ih => intro h; rw [hsv q h]; exact ih (by omega)
  have hstep : ∀ q, q < C → ∀ (j : Nat) (v : AV × Option Blk), (∀ d, q ≤ d → d < C → j ≠ cut d) → (vs q)[j]? = some v → (vs (q + 1))[j]? = some (kill (lb q) v.1, v.2) := by
    intro q hq j v hj hv
    rw [hvs q hq]
    rcases Nat.lt_or_ge j (cut q) with hi | hi
    · rw [klistTo_lt hi, hv]; rfl
    · have h1 := hj q (Nat.le_refl _) hq
      rw [klistTo_ge hi, hv, hinv q j v hq (by omega) (fun d hd e => ?_) hv]
      rcases Nat.lt_or_ge d q with h2 | h2
      · obtain ⟨k, rfl⟩ : ∃ k, q = d + k + 1 := ⟨q - d - 1, by omega⟩
        have := hsort hcs k d hq
        omega
      · exact hj d h2 hd e
  have hback : ∀ q, q < C → ∀ (j : Nat) (v : AV × Option Blk), cut q < j → (vs (q + 1))[j]? = some v → (vs q)[j]? = some v := by
    intro q hq j v hj hv
    rw [hvs q hq, klistTo_ge (by omega)] at hv
    exact hv
  have mkInv : ∀ {s : St} {vs : List (AV × Option Blk)} {S ρ F a w}, (∀ (i : Nat) (v : AV × Option Blk), vs[i]? = some v → v.2 = none) → Rel ρ F (dSt s os vs S) a w → Inv s os vs S ρ F a w := by
    intro s vs S ρ F a w hn h
    exact ⟨h, fun i o v d _ h2 _ _ h5 => by rw [hn i v h2] at h5; cases h5⟩
  have hno : ∀ {s : St} {vs : List (AV × Option Blk)}, (∀ (i : Nat) (v : AV × Option Blk), vs[i]? = some v → v.2 = none) → ∀ (j : Nat) (o' : Oper) (v' : AV × Option Blk) (d : Tmp), os[j]? = some o' → vs[j]? = some v' → o'.dst = some d → v'.2.isSome = true → ∀ C, (lab d, C) ∉ s.h := by
    intro s vs hn j o' v' d _ h2 _ h4
    rw [hn j v' h2] at h4; cases h4
  have noH : ∀ {vs : List (AV × Option Blk)} {S : Nat → Bool}, (∀ (i : Nat) (v : AV × Option Blk), vs[i]? = some v → v.2 = none) → ∀ p, p ∉ partH S 0 os vs := by
    intro vs S hn p hp
    obtain ⟨j, o', v', d, h1, h2, h3, h4, h5, h6⟩ := mem_partH.1 hp
    rw [hn j v' h2] at h6; cases h6
  refine draw_anyJ (J := fun S ρ F a w => ∃ p, p ≤ C ∧ (∀ d, d < p → S (cut d) = true) ∧ (∀ d, p ≤ d → d < C → S (cut d) = false) ∧ Rel ρ F (dSt ⟨st.n, (sv p).t, blks lb B' p ++ (sv p).h⟩ os (vs p) S) a w) (K := K .normal) (ρ0 := ρ) (F0 := F) (w0 := w) (stf := dSt ⟨st.n, (sv C).t, blks lb B' C ++ (sv C).h⟩ os (vs C) fun _ => true) hm ht ?_ ?_ hT (fun st' ρ' F' a' w' h1 h2 h3 => hQ _ st' ρ' F' a' w' h1 h2 h3) ops.size (ρ := ρ) (F := F) (by simp) ?_ ?_ ?_ ?_ hFd
  · rintro S ρ F a w i o N ho him hSi hp hcl hlm ⟨p, hpC, hp1, hp2, hI⟩ hN
    have hoi : os[i]? = some o := by rw [hosget i him]; exact ho
    have hcl1 : ∀ (j : Nat) (o' : Oper), os[j]? = some o' → S j = true → ∀ k ∈ dpreds o', S k = true := fun j o' h1 h2 => hcl j o' (by
      have hjm : j < m := by
        have := (List.getElem?_eq_some_iff.1 h1).1
        rw [← hos, List.length_take] at this; omega
      rw [← hosget j hjm]; exact h1) h2
    have late : ∀ {s : St} {L : List (Nat × AV)}, LateOk s os i L → ∀ p ∈ L, p ∈ s.t ∧ p.1 ∉ dstsS S 0 os := by
      intro s L hL p hpL
      refine ⟨(hL p hpL).1, fun hm => ?_⟩
      obtain ⟨j, o', h1, h2, h3⟩ := mem_dstsS.1 hm
      rw [Nat.zero_add] at h2
      have := hcl1 j o' h1 h2 i ((hL p hpL).2 j o' h1 h3)
      rw [hSi] at this; cases this
    have base : ∀ {s : St} (p : Nat × AV), p ∈ dropTs (dsts os) s.t → p ∈ s.t ∧ p.1 ∉ dstsS S 0 os := by
      intro s p h
      have h' := mem_dropTs h
      refine ⟨h'.1, fun hm => h'.2 ?_⟩
      obtain ⟨j, o', h1, h2, h3⟩ := mem_dstsS.1 hm
      exact dsts_mem h1 h3
    have hpar : fl i = false → ∀ d, d < C → i < cut d → S (cut d) = false := by
      intro hfi d hd hid
      cases h0 : S (cut d) with
      | false => rfl
      | true =>
        obtain ⟨od, hod⟩ : ∃ od, ops[cut d]? = some od := ⟨_, Array.getElem?_eq_getElem (by have := hcm d hd; omega)⟩
        have := hanc d hd S hcl od hod h0 i hid hfi
        rw [hSi] at this; cases this
    by_cases hcut : ∃ d, d < C ∧ cut d = i
    · -- an append
      obtain ⟨d, hdC, hd⟩ := hcut
      have hdp : d = p := by
        rcases Nat.lt_trichotomy d p with h | h | h
        · have := hp1 d h; rw [hd, hSi] at this; cases this
        · exact h
        · have h1 : cut p < cut d := by
            obtain ⟨k, rfl⟩ : ∃ k, d = p + k + 1 := ⟨d - p - 1, by omega⟩
            exact hsort hcs k p hdC
          have h2 := hp2 p (Nat.le_refl _) (by omega)
          have hb : S (cut p) = true := by
            -- all ahead of it is done
            have hc2 : Closed ops (upd S i) := by
              intro j o' ho' hj k hk
              simp only [upd, Bool.or_eq_true, beq_iff_eq] at hj ⊢
              rcases hj with hj | rfl
              · exact .inl (hcl j o' ho' hj k hk)
              · rw [ho] at ho'; cases ho'; exact .inl (hp k hk)
            have := hanc d hdC _ hc2 o (by rw [hd]; exact ho) (by rw [hd]; simp [upd]) (cut p) h1 (hflc p (by omega))
            simp only [upd, Bool.or_eq_true, beq_iff_eq] at this
            rcases this with h | h
            · exact h
            · omega
          rw [h2] at hb; cases hb
      subst hdp
      subst hd
      have hpl : d < C := hdC
      have hA := happ d o hdC hoi
      obtain ⟨sx, xx, s, x, e1, e2, hop⟩ := hA.op
      have hσ : Rel ρ F ⟨st.n, (dViewL (sv d) os (vs d) [] o).t ++ (dSt ⟨st.n, (sv d).t, blks lb B' d ++ (sv d).h⟩ os (vs d) S).t, blks lb B' d ++ (sv d).h⟩ a w := by
        refine hI.subset rfl ?_ (by intro p hp'; simp only [dSt, List.mem_append] at hp' ⊢; exact .inr hp')
        intro p hp'
        rcases List.mem_append.1 hp' with hp' | hp'
        · simp only [dViewL, dSt, List.mem_append, List.not_mem_nil, false_or] at hp' ⊢
          rcases hp' with h | h
          · obtain ⟨j, o', v', h1, h2, h3, h4, h5⟩ := mem_partT.1 h
            refine .inl (mem_partT.2 ⟨j, o', v', h1, h2, ?_, h4, h5⟩)
            rw [Nat.zero_add] at h3 ⊢
            exact hp j (by simpa using h3)
          · have := base p h
            exact .inr (mem_dropTs' this.1 this.2)
        · exact hp'
      generalize hX : (dViewL (sv d) os (vs d) [] o).t ++ (dSt ⟨st.n, (sv d).t, blks lb B' d ++ (sv d).h⟩ os (vs d) S).t = X at *
      have hmo := hop ⟨st.n, X, blks lb B' d ++ (sv d).h⟩ (by rw [← hX]; exact eval_front (h := (dViewL (sv d) os (vs d) [] o).h) (by rw [show (st.n) = (sv d).n from (hsn d hpC).symm]; exact e1)) (by rw [← hX]; exact eval_front (h := (dViewL (sv d) os (vs d) [] o).h) (by rw [show (st.n) = (sv d).n from (hsn d hpC).symm]; exact e2)) (fun C' h => h)
      have hso : stepOp P ops (cut d) ⟨st.n, X, blks lb B' d ++ (sv d).h⟩ = some ((((⟨st.n, X, blks lb B' d ++ (sv d).h⟩ : St).drop (lb d)).new (lb d) (B' d)).put o.dst (v0 d)) := by
        have hd' := hA.dst
        rw [hsn d hpC] at hd'
        unfold stepOp
        simp only [ho, hd', if_true, gOk, hA.guard, hmo, Option.map_some]
      obtain ⟨a', w', ρ', hR', hF, hw⟩ := stepOp_any hso hσ
      refine hw Q N (hN ρ' F a' w' ⟨d + 1, hdC, ?_, ?_, ?_⟩ hF)
      · intro d' hd'
        simp only [upd, Bool.or_eq_true, beq_iff_eq]
        rcases Nat.lt_or_ge d' d with h | h
        · exact .inl (hp1 d' h)
        · exact .inr (by rw [show d' = d by omega])
      · intro d' h1 h2
        have hlt : cut d < cut d' := by
          obtain ⟨k, rfl⟩ : ∃ k, d' = d + k + 1 := ⟨d' - d - 1, by omega⟩
          exact hsort hcs k d h2
        simp only [upd, Bool.or_eq_false_iff, beq_eq_false_iff_ne, ne_eq]
        exact ⟨hp2 d' (by omega) h2, by omega⟩
      have hkt : ∀ (t : Nat) (u : AV), (t, u) ∈ (dSt ⟨st.n, (sv d).t, blks lb B' d ++ (sv d).h⟩ os (vs d) S).t → (t, kill (lb d) u) ∈ (((⟨st.n, X, blks lb B' d ++ (sv d).h⟩ : St).drop (lb d)).new (lb d) (B' d)).t := by
        intro t u hu
        have h1 : (t, kill (lb d) u) ∈ mapT (kill (lb d)) X := mem_mapT' (by rw [← hX]; exact List.mem_append.2 (.inr hu))
        have h2 := mem_mapT' (f := kill (lb d)) h1
        rw [kill_idem] at h2
        exact h2
      have hsv1 := hsv d hdC
      refine hR'.subset (by cases o.dst <;> rfl) ?_ ?_
      · intro p hp'
        have old : p ∈ (((⟨st.n, X, blks lb B' d ++ (sv d).h⟩ : St).drop (lb d)).new (lb d) (B' d)).t → (∀ e, o.dst = some e → p.1 ≠ e) → p ∈ ((((⟨st.n, X, blks lb B' d ++ (sv d).h⟩ : St).drop (lb d)).new (lb d) (B' d)).put o.dst (v0 d)).t := by
          intro h1 h2
          cases hd : o.dst with
          | none => exact h1
          | some e => exact mem_ins_other (h2 e hd) h1
        simp only [dSt, List.mem_append] at hp'
        rcases hp' with h | h
        · obtain ⟨j, o', v', h1, h2, h3, h4, h5⟩ := mem_partT.1 h
          simp only [Nat.zero_add, upd, Bool.or_eq_true, beq_iff_eq] at h3
          by_cases hj : j = cut d
          · subst hj
            rw [hvs d hdC, klistTo_ge (Nat.le_refl _), hv0 d hdC] at h2; cases h2
            rw [hoi] at h1; cases h1
            obtain ⟨p1, p2⟩ := p
            simp only at h4 h5
            subst h5
            rw [h4]
            exact mem_ins_self _ _ _
          · have hSj : S j = true := h3.resolve_right hj
            obtain ⟨u, hu⟩ : ∃ u, (vs d)[j]? = some u := ⟨_, List.getElem?_eq_getElem (by rw [hlen d hpC, ← hlen (d + 1) hdC]; exact (List.getElem?_eq_some_iff.1 h2).1)⟩
            have hjd : ∀ d', d ≤ d' → d' < C → j ≠ cut d' := by
              intro d' h6 h7 e
              rw [e, hp2 d' h6 h7] at hSj; cases hSj
            have := hstep d hdC j u hjd hu
            rw [this] at h2; cases h2
            obtain ⟨p1, p2⟩ := p
            simp only at h4 h5
            subst h5
            refine old (hkt p1 u.1 (List.mem_append.2 (.inl (mem_partT.2 ⟨j, o', u, h1, hu, by rw [Nat.zero_add]; exact hSj, h4, rfl⟩)))) ?_
            intro e hd e'
            simp only at e'
            subst e'
            exact hj (dsts_inj hnd h1 hoi h4 hd)
        · have h' := mem_dropTs h
          obtain ⟨p1, p2⟩ := p
          have hpt : (p1, p2) ∈ mapT (kill (lb d)) (sv d).t := by have := h'.1; rw [hsv1] at this; exact this
          obtain ⟨u, hu, rfl⟩ := mem_mapT hpt
          refine old (hkt p1 u (List.mem_append.2 (.inr (mem_dropTs' hu fun hm => h'.2 ?_)))) ?_
          · obtain ⟨j, o', h1, h2, h3⟩ := mem_dstsS.1 hm
            exact mem_dstsS.2 ⟨j, o', h1, by simp only [upd]; rw [h2]; rfl, h3⟩
          · intro e hd e'
            simp only at e'
            subst e'
            exact h'.2 (mem_dstsS.2 ⟨cut d, o, hoi, by simp [upd], hd⟩)
      · intro p hp'
        simp only [dSt, List.mem_append] at hp'
        have hp' := hp'.resolve_left (noH (hnone (d + 1) hdC) p)
        have keyB : ∀ (k : Nat) (D : Blk), (k, D) ∈ blks lb B' d ++ (sv d).h → k ≠ lb d → (k, if D.boxy then { D with cs := kills (lb d) D.cs } else D) ∈ (((⟨st.n, X, blks lb B' d ++ (sv d).h⟩ : St).drop (lb d)).new (lb d) (B' d)).h := by
          intro k D hD hne
          refine @mem_ins_other _ _ _ _ ?_ _ ?_
          · exact hne
          have h1 := mem_mapH' (l := lb d) (mem_del' hD (p := (k, D)) hne)
          have h2 := mem_mapH' (l := lb d) (mem_del' h1 hne)
          have h3 : (if (if D.boxy = true then ({ e := D.e, boxy := D.boxy, cs := kills (lb d) D.cs } : Blk) else D).boxy = true then { (if D.boxy = true then ({ e := D.e, boxy := D.boxy, cs := kills (lb d) D.cs } : Blk) else D) with cs := kills (lb d) (if D.boxy = true then ({ e := D.e, boxy := D.boxy, cs := kills (lb d) D.cs } : Blk) else D).cs } else (if D.boxy = true then ({ e := D.e, boxy := D.boxy, cs := kills (lb d) D.cs } : Blk) else D)) = (if D.boxy = true then ({ e := D.e, boxy := D.boxy, cs := kills (lb d) D.cs } : Blk) else D) := by
            cases hb : D.boxy
            · simp [hb]
            · simp [hb, kills_idem]
          rw [h3] at h2
          exact h2
        have : p ∈ (((⟨st.n, X, blks lb B' d ++ (sv d).h⟩ : St).drop (lb d)).new (lb d) (B' d)).h := by
          rcases hp' with hp' | hp'
          · rcases List.mem_cons.1 hp' with rfl | hp'
            · exact mem_ins_self _ _ _
            · obtain ⟨hp', hne⟩ := mem_del hp'
              obtain ⟨d', hd', e⟩ := mem_blks hp'
              subst e
              have h1 := keyB (lb d') (B' d') (List.mem_append.2 (.inl hp')) hne
              rw [if_neg (by rw [hbx d' (by omega)]; decide)] at h1
              exact h1
          · have hp'' : p ∈ mapH (lb d) (del (lb d) (sv d).h) := by rw [hsv1] at hp'; exact hp'
            obtain ⟨k, C'⟩ := p
            obtain ⟨D, hD, rfl⟩ := mem_mapH hp''
            obtain ⟨hD, hne⟩ := mem_del hD
            exact keyB k D (List.mem_append.2 (.inr hD)) hne
        cases hd : o.dst <;> exact this
    · -- beside the appends
      have hseg : ∃ c, c ≤ C ∧ (∀ d, d < c → cut d < i) ∧ (∀ d, c ≤ d → d < C → i < cut d) := by
        have key : ∀ n, n ≤ C → ∃ c, c ≤ n ∧ (∀ d, d < c → cut d < i) ∧ (∀ d, c ≤ d → d < n → i < cut d) := by
          intro n
          induction n with
          | zero => intro _; exact ⟨0, Nat.le_refl _, fun d h => absurd h (Nat.not_lt_zero _), fun d _ h => absurd h (Nat.not_lt_zero _)⟩
          | succ n ih =>
            intro hn
            obtain ⟨c, h1, h2, h3⟩ := ih (by omega)
            have hne : cut n ≠ i := fun e => hcut ⟨n, hn, e⟩
            rcases Nat.lt_or_ge (cut n) i with hlt | hge
            · refine ⟨n + 1, Nat.le_refl _, fun d hd => ?_, fun d h4 h5 => by omega⟩
              rcases Nat.lt_or_ge d n with h | h
              · obtain ⟨k, hk⟩ : ∃ k, n = d + k + 1 := ⟨n - d - 1, by omega⟩
                have := hsort hcs k d (by omega)
                rw [← hk] at this; omega
              · rw [show d = n by omega]; exact hlt
            · refine ⟨c, by omega, h2, fun d h4 h5 => ?_⟩
              rcases Nat.lt_or_ge d n with h | h
              · exact h3 d h4 h
              · rw [show d = n by omega]; omega
        exact key C (Nat.le_refl _)
      obtain ⟨c, hcC, hpc, v, hv, hvp, hfc⟩ : ∃ c, c ≤ C ∧ p ≤ c ∧ ∃ v, (vs c)[i]? = some v ∧ (vs p)[i]? = some v ∧ DFactE P (sv c) ops os (vs c) i o v := by
        cases hfi : fl i with
        | true =>
          obtain ⟨v, hv⟩ : ∃ v, (vs p)[i]? = some v := ⟨_, List.getElem?_eq_getElem (by rw [hlen p hpC]; exact him)⟩
          exact ⟨p, hpC, Nat.le_refl _, v, hv, hv, hfl p i o v hpC hfi hoi hv⟩
        | false =>
          obtain ⟨c, hcC, hc1, hc2⟩ := hseg
          have hpc : p ≤ c := by
            rcases Nat.lt_or_ge c p with h | h
            · exfalso
              have h1 := hp1 c h
              rw [hpar hfi c (by omega) (hc2 c (Nat.le_refl _) (by omega))] at h1; cases h1
            · exact h
          obtain ⟨v, hv⟩ : ∃ v, (vs c)[i]? = some v := ⟨_, List.getElem?_eq_getElem (by rw [hlen c hcC]; exact him)⟩
          -- its value is told so in the phases ahead
          have hvp : (vs p)[i]? = some v := by
            have key : ∀ k, k ≤ c → (vs (c - k))[i]? = some v := by
              intro k
              induction k with
              | zero => intro _; exact hv
              | succ k ih =>
                intro hk
                have h1 := ih (by omega)
                rw [show c - k = c - (k + 1) + 1 by omega] at h1
                exact hback (c - (k + 1)) (by omega) i v (hc1 _ (by omega)) h1
            have := key (c - p) (by omega)
            rw [show c - (c - p) = p by omega] at this
            exact this
          exact ⟨c, hcC, hpc, v, hv, hvp, f c i o v hcC hc1 hc2 hoi hv⟩
      have next : ∀ ρ' F' a' w', Inv ⟨st.n, (sv p).t, blks lb B' p ++ (sv p).h⟩ os (vs p) (upd S i) ρ' F' a' w' → Fr ρ F w ρ' F' w' → N a' w' := by
        intro ρ' F' a' w' hI' hFr
        refine hN ρ' F' a' w' ⟨p, hpC, ?_, ?_, hI'.rel⟩ hFr
        · intro d hd
          simp only [upd, hp1 d hd, Bool.true_or]
        · intro d h1 h2
          simp only [upd, Bool.or_eq_false_iff, beq_eq_false_iff_ne, ne_eq]
          exact ⟨hp2 d h1 h2, fun e => hcut ⟨d, h2, e⟩⟩
      rcases hfc with hfi | ⟨hdn, hfe⟩
      rotate_left
      · exact emp_step (st := ⟨st.n, (sv p).t, blks lb B' p ++ (sv p).h⟩) (vs := vs p) hnd ho hoi hvp (by rw [← hsn c hcC]; exact hdn) hfe (mkInv (hnone p hpC) hI) next
      refine draw_step3 (st := ⟨st.n, (sv p).t, blks lb B' p ++ (sv p).h⟩) (vs := vs p) (stv := sv c) (vsv := vs c) hnd (hno (hnone p hpC)) ho hoi hvp hSi hp hcl1 (hsn c hcC) ?_ hfi (mkInv (hnone p hpC) hI) next
      · intro L hL
        -- hide what the appends between touch
        have hh : ∀ k, p + k ≤ c → (∀ q ∈ (sv (p + k)).h, q ∈ (hides lb (dSt ⟨st.n, (sv p).t, blks lb B' p ++ (sv p).h⟩ os (vs p) S) p k).h) ∧
            (∀ q ∈ (sv (p + k)).t, q.1 ∉ dstsS S 0 os → q ∈ (hides lb (dSt ⟨st.n, (sv p).t, blks lb B' p ++ (sv p).h⟩ os (vs p) S) p k).t) ∧
            (∀ (j : Nat) (o' : Oper) (u : AV × Option Blk) (t : Nat), os[j]? = some o' → S j = true → o'.dst = some t → (vs (p + k))[j]? = some u → (t, u.1) ∈ (hides lb (dSt ⟨st.n, (sv p).t, blks lb B' p ++ (sv p).h⟩ os (vs p) S) p k).t) := by
          intro k
          induction k with
          | zero =>
            intro _
            refine ⟨fun q hq => List.mem_append.2 (.inr (List.mem_append.2 (.inr hq))), fun q hq hn => List.mem_append.2 (.inr (mem_dropTs' hq hn)), fun j o' u t h1 h2 h3 h4 => List.mem_append.2 (.inl (mem_partT.2 ⟨j, o', u, h1, h4, by rw [Nat.zero_add]; exact h2, h3, rfl⟩))⟩
          | succ k ih =>
            intro hk
            obtain ⟨i1, i2, i3⟩ := ih (by omega)
            have hs1 := hsv (p + k) (by omega)
            refine ⟨?_, ?_, ?_⟩
            · intro q hq
              rw [show p + (k + 1) = p + k + 1 from rfl, hs1] at hq
              exact mapH_sub i1 q hq
            · rintro ⟨q1, q2⟩ hq hn
              rw [show p + (k + 1) = p + k + 1 from rfl, hs1] at hq
              obtain ⟨u, hu, rfl⟩ := mem_mapT hq
              exact mem_mapT' (i2 (q1, u) hu hn)
            · intro j o' u t h1 h2 h3 h4
              have hjc : ∀ d', p + k ≤ d' → d' < C → j ≠ cut d' := by
                intro d' h6 h7 e
                rw [e, hp2 d' (by omega) h7] at h2; cases h2
              obtain ⟨u', hu'⟩ : ∃ u', (vs (p + k))[j]? = some u' := ⟨_, List.getElem?_eq_getElem (by rw [hlen _ (by omega), ← hlen (p + (k + 1)) (by omega)]; exact (List.getElem?_eq_some_iff.1 h4).1)⟩
              have := hstep (p + k) (by omega) j u' hjc hu'
              rw [show p + (k + 1) = p + k + 1 from rfl, this] at h4
              cases h4
              exact mem_mapT' (i3 j o' u' t h1 h2 h3 hu')
        obtain ⟨i1, i2, i3⟩ := hh (c - p) (by omega)
        rw [show p + (c - p) = c by omega] at i1 i2 i3
        refine (hI.hides (lb := lb) p (c - p)).subset (by rw [hides_n]; exact hsn c hcC) ?_ ?_
        · intro q hq
          simp only [dViewL, List.mem_append] at hq
          rcases hq with h | h | h
          · obtain ⟨j, o', v', h1, h2, h3, h4, h5⟩ := mem_partT.1 h
            have hSj : S j = true := by rw [Nat.zero_add] at h3; exact hp j (by simpa using h3)
            obtain ⟨q1, q2⟩ := q
            simp only at h4 h5
            subst h5
            exact i3 j o' v' q1 h1 hSj h4 h2
          · have := late hL q h
            exact i2 q this.1 this.2
          · have := base q h
            exact i2 q this.1 this.2
        · intro q hq
          exact i1 q hq
  · rintro S ρ F a w hS ⟨p, hpC, hp1, hp2, hI⟩
    have hpe : p = C := by
      rcases Nat.lt_or_ge p C with h | h
      · have := hp2 p (Nat.le_refl _) h
        rw [hS] at this
        simp only [decide_eq_false_iff_not] at this
        exact absurd (hcm p h) this
      · omega
    subst hpe
    refine hI.subset rfl ?_ ?_
    · intro q hq
      simp only [dSt, List.mem_append] at hq ⊢
      rcases hq with hq | hq
      · obtain ⟨i, o, v, h1, h2, _, h4, h5⟩ := mem_partT.1 hq
        refine .inl (mem_partT.2 ⟨i, o, v, h1, h2, ?_, h4, h5⟩)
        have := (List.getElem?_eq_some_iff.1 h2).1
        rw [hlen p (Nat.le_refl _)] at this
        rw [hS]; simp; omega
      · have hp' := mem_dropTs hq
        refine .inr (mem_dropTs' hp'.1 fun hm => hp'.2 ?_)
        obtain ⟨j, o', h1, h2, h3⟩ := mem_dstsS.1 hm
        exact mem_dstsS.2 ⟨j, o', h1, rfl, h3⟩
    · intro q hq
      simp only [dSt, List.mem_append] at hq ⊢
      exact .inr (hq.resolve_left (noH (hnone p (Nat.le_refl _)) q))
  · have : ∀ n, unl (List.replicate n false) = n := by
      intro n; induction n with
      | zero => rfl
      | succ n ih => simp [List.replicate_succ, unl, ih, Nat.add_comm]
    simp [this]
  · intro i o ho hi
    simp [ls, Array.getD_eq_getD_getElem?, Array.getElem?_replicate] at hi
    split at hi <;> simp at hi
  · intro i hi
    simp [ls, Array.getD_eq_getD_getElem?, Array.getElem?_replicate] at hi
    split at hi <;> simp at hi
  · have hf : ls (Array.replicate ops.size false) = fun _ => false := by
      funext i
      simp only [ls, Array.getD_eq_getD_getElem?, Array.getElem?_replicate]
      split <;> rfl
    rw [hf]
    refine ⟨0, Nat.zero_le _, fun d h => absurd h (Nat.not_lt_zero _), fun _ _ _ => rfl, hw1.subset rfl ?_ ?_⟩
    · intro p hp
      simp only [dSt, List.mem_append] at hp
      rcases hp with hp | hp
      · obtain ⟨i, o, v, _, _, h3, _⟩ := mem_partT.1 hp; cases h3
      · have := (mem_dropTs hp).1; rw [hsv0] at this; exact this
    · intro p hp
      simp only [dSt, List.mem_append, blks, List.not_mem_nil, false_or] at hp
      rcases hp with hp | hp
      · obtain ⟨i, o, v, d, _, _, h3, _⟩ := mem_partH.1 hp; cases h3
      · rw [hsv0] at hp; exact hp
end Go.Proofs.YtjeafkodcmbabaaDoor.E

namespace Go.Proofs.YtjeafkodcmbabaaDoor.E
set_option linter.unusedVariables false
set_option linter.unusedSimpArgs false
/-! ## The same, step by step -/
def insL : List (Nat × Blk) → List (Nat × Blk) → List (Nat × Blk)
  | [], h => h
  | (l, B) :: r, h => ins l B (insL r h)
theorem mem_insL {p : Nat × Blk} : ∀ {r h : List (Nat × Blk)}, p ∈ insL r h → p ∈ r ++ h
  | [], h, hp => hp
  | (l, B) :: r, h, hp => by
    rcases mem_ins hp with rfl | ⟨hp, _⟩
    · simp
    · exact List.mem_cons_of_mem _ (mem_insL hp)
def ADP (G : Prop) (P : Program) (ops : Array Oper) (m : Nat) (stv : St) (bl : List (Nat × Blk)) (pre : List Oper) (base : List (Nat × AV)) (lo : Nat) (os : List Oper) (vs : List (AV × Option Blk)) : Prop :=
  drawOk ops m = true → pre = ops.toList.take m → base = dropTs (dsts pre) stv.t → pre.drop vs.length = os → (∀ (i : Nat) (o : Oper) (v : AV × Option Blk), lo ≤ i → pre[i]? = some o → vs[i]? = some v → v.2 = none ∧ DFactE P stv ops pre vs i o v) → G
theorem ADP.snoc {G : Prop} {P : Program} {ops : Array Oper} {m : Nat} {stv : St} {bl : List (Nat × Blk)} {pre : List Oper} {base : List (Nat × AV)} {lo : Nat} {o : Oper} {os : List Oper} {vs : List (AV × Option Blk)} {v : AV × Option Blk} (h2 : v.2 = none)
    (hf : drawOk ops m = true → pre = ops.toList.take m → base = dropTs (dsts pre) stv.t → DFactE P stv ops pre vs vs.length o v) (h : ADP G P ops m stv bl pre base lo os (vs ++ [v])) : ADP G P ops m stv bl pre base lo (o :: os) vs := by
  intro hok hpre hbase hos hfs
  have ho : pre[vs.length]? = some o := by
    have := congrArg (·[0]?) hos
    simpa using this
  have hf := hf hok hpre hbase
  have he : edgesOk 0 ops.toList = true := by
    simp only [drawOk, Bool.and_eq_true] at hok; exact hok.1
  refine h hok hpre hbase (by rw [List.length_append, List.length_singleton, ← List.drop_drop, hos]; rfl) ?_
  intro i o' v' hlo ho' hv'
  have hi : i ≤ vs.length := by
    have := (List.getElem?_eq_some_iff.1 hv').1
    simp at this; omega
  have hpd : ∀ j ∈ dpreds o', j < vs.length := by
    intro j hj
    have h1 : ops.toList[i]? = some o' := by
      rw [hpre, List.getElem?_take] at ho'
      split at ho'
      · exact ho'
      · cases ho'
    have := edgesOk_lt he i o' h1 j hj
    omega
  by_cases hlt : i < vs.length
  · rw [List.getElem?_append_left hlt] at hv'
    obtain ⟨a, b⟩ := hfs i o' v' hlo ho' hv'
    exact ⟨a, b.app hpd⟩
  · have hie : i = vs.length := by omega
    subst hie
    rw [List.getElem?_append_right (Nat.le_refl _)] at hv'
    simp at hv'
    subst hv'
    rw [ho] at ho'
    cases ho'
    exact ⟨h2, hf.app hpd⟩
theorem dVw_L {stv : St} {pre : List Oper} {base : List (Nat × AV)} {vs : List (AV × Option Blk)} {o : Oper} (hbase : base = dropTs (dsts pre) stv.t) : dVw stv pre base vs o = dViewL stv pre vs [] o := by
  subst hbase; rw [dVw_eq]; simp only [dView, dViewL, List.nil_append]
theorem ADP.pure {G : Prop} {P : Program} {ops : Array Oper} {m : Nat} {stv : St} {bl : List (Nat × Blk)} {pre : List Oper} {base : List (Nat × AV)} {lo : Nat} {o : Oper} {os : List Oper} {vs : List (AV × Option Blk)} {v : AV × Option Blk} (h2 : v.2 = none)
    (hr : dStepL P stv.n ops.toList [] (dVw stv pre base vs o) o = some v) (h : ADP G P ops m stv bl pre base lo os (vs ++ [v])) : ADP G P ops m stv bl pre base lo (o :: os) vs := by
  refine ADP.snoc h2 (fun hok hpre hbase => ?_) h
  rw [dVw_L hbase] at hr
  unfold dStepL at hr
  rw [gOkL_eq] at hr
  split at hr
  · rename_i hd hg
    cases hr
    exact .inl ⟨hd, [], LateOk.nil _ _ _, .inl ⟨hg, rfl⟩⟩
  · rename_i hd hg
    simp only [Option.bind_eq_some_iff] at hr
    obtain ⟨v', hv, hr⟩ := hr
    split at hr
    · cases hr
      exact .inl ⟨hd, [], LateOk.nil _ _ _, .inr ⟨hg, .inl hv⟩⟩
    · cases hr
  · cases hr
theorem ADP.callF {G : Prop} {P : Program} {ops : Array Oper} {m : Nat} {stv : St} {bl : List (Nat × Blk)} {pre : List Oper} {base : List (Nat × AV)} {lo : Nat} {o : Oper} {os : List Oper} {vs vs' : List (AV × Option Blk)} {g : FuncId} {as : List AV} {v : AV}
    (hc : dCallL stv.n ops.toList (dVw stv pre base vs o) o = some (g, as)) (hF : CallF P stv.h as g v) (hcl : callable P g = true)
    (hvs : vs ++ [(v, none)] = vs' := by simp only [List.cons_append, List.nil_append]; exact rfl) (h : ADP G P ops m stv bl pre base lo os vs') : ADP G P ops m stv bl pre base lo (o :: os) vs := by
  subst hvs
  refine ADP.snoc rfl (fun hok hpre hbase => ?_) h
  rw [dVw_L hbase] at hc
  unfold dCallL at hc
  rw [gOkL_eq] at hc
  split at hc
  · rename_i hd hg
    exact .inl ⟨hd, [], LateOk.nil _ _ _, .inr ⟨hg, .inr ⟨g, as, hc, hcl, rfl, hF⟩⟩⟩
  · cases hc
theorem ADP.call {G : Prop} {P : Program} {ops : Array Oper} {m : Nat} {stv : St} {bl : List (Nat × Blk)} {pre : List Oper} {base : List (Nat × AV)} {lo : Nat} {o : Oper} {os : List Oper} {vs vs' : List (AV × Option Blk)} {g : FuncId} {as : List AV} {v : AV}
    (hc : dCallL stv.n ops.toList (dVw stv pre base vs o) o = some (g, as)) (hF : Fn P g as [] (fun r _ => r = v)) (hcl : callable P g = true) (hfr : frees as = true) (hv : v.free = true)
    (hvs : vs ++ [(v, none)] = vs' := by simp only [List.cons_append, List.nil_append]; exact rfl) (h : ADP G P ops m stv bl pre base lo os vs') : ADP G P ops m stv bl pre base lo (o :: os) vs :=
  ADP.callF hc (.inl ⟨hfr, hv, hF⟩) hcl hvs h
theorem ADP.callB {G : Prop} {P : Program} {ops : Array Oper} {m : Nat} {stv : St} {bl : List (Nat × Blk)} {pre : List Oper} {base : List (Nat × AV)} {lo : Nat} {o : Oper} {os : List Oper} {vs vs' : List (AV × Option Blk)} {g : FuncId} {as0 as : List AV} {x : Value} (ls : List (Nat × List AV)) (hls : FrzOk stv.h [] ls)
    (hc : dCallL stv.n ops.toList (dVw stv pre base vs o) o = some (g, as0)) (has : frzL ls as0 = as) (hF : Fn P g as [] (fun r _ => r = .val x)) (hcl : callable P g = true) (hfr : frees as = true)
    (hvs : vs ++ [(.val x, none)] = vs' := by simp only [List.cons_append, List.nil_append]; exact rfl) (h : ADP G P ops m stv bl pre base lo os vs') : ADP G P ops m stv bl pre base lo (o :: os) vs :=
  ADP.callF hc (.inr ⟨ls, x, rfl, hls, by rw [has]; exact hfr, by rw [has]; exact hF⟩) hcl hvs h
theorem ADP.d1 {G : Prop} {P : Program} {ops : Array Oper} {m : Nat} {stv : St} {bl : List (Nat × Blk)} {pre : List Oper} {base : List (Nat × AV)} {lo : Nat} {o : Oper} {os : List Oper} {vs vs' : List (AV × Option Blk)} {v : AV × Option Blk}
    (hr : dStepL P stv.n ops.toList [] (dVw stv pre base vs o) o = some v := by
      simp only [dRunK, dStepL, dVw, pickT, predsL, inL, dEval, lOk, runK, stepL, memOp, pureOp, gOkL, dstAt, dOk, St.eval, St.evalO, get?, St.put, ins, del, AV.ofV, aBinAll, aBin, aBinI, aBinA, csEq, cEq, rI, isC, aUn, aConv, aStr, nums_by8, aIface, aNil, aCallB, aLen, aMinMax, intOf?, bnd, Go.Proofs.YtjeafkodcmbabaaDoor.E.ld, Go.Proofs.YtjeafkodcmbabaaDoor.E.part, Go.Proofs.YtjeafkodcmbabaaDoor.E.takeAgg_tk, Go.Proofs.YtjeafkodcmbabaaDoor.E.tk, aFieldAddr, aIndexAddr, aField, aIndex, aBuildSlice, cBuild, aAlloc, aStore, aApp, srcCells, aFill, mapM?, St.parts, St.new, St.drop, mapT, mapH, kill, kills, AV.cells, AV.fits, AV.one, AV.free, frees, splice, cyc, lab, Value.oneCell', Value.cells, Option.bind_some, Option.map_some, Option.bind_none, Option.map_none, decide_true, decide_false, if_true, if_false, reduceIte, reduceCtorEq, Bool.false_eq_true, Nat.reduceLT, Nat.reduceEqDiff, Nat.reduceAdd, Nat.reduceMul, Nat.reduceLeDiff, Nat.reduceSub, Nat.zero_add, Nat.add_zero, Nat.zero_mul, Nat.one_mul, Nat.mul_one, Int.toNat_natCast, Int.toNat_zero, List.drop_succ_cons, List.drop_zero, List.take_succ_cons, List.take_zero, List.length_cons, List.length_nil, List.head?_cons, List.map_cons, List.map_nil, List.all_cons, List.all_nil, List.cons_append, List.nil_append, List.append_nil, List.set_cons_zero, List.set_cons_succ, List.getElem?_cons_zero, List.getElem?_cons_succ, Bool.not_true, Bool.not_false, beq_true, beq_false, Bool.true_beq, Bool.false_beq, Bool.and_self, Bool.and_true, Bool.true_and, and_self, and_true, true_and, false_implies, true_implies, implies_true, bne_self_eq_false, beq_self_eq_true, Option.isSome_some, List.all, *]
      exact rfl)
    (h2 : v.2 = none := by exact rfl) (hvs : vs ++ [v] = vs' := by simp only [List.cons_append, List.nil_append]; exact rfl)
    (h : ADP G P ops m stv bl pre base lo os vs') : ADP G P ops m stv bl pre base lo (o :: os) vs := by
  subst hvs; exact ADP.pure h2 hr h
abbrev klist (l : Nat) (vs : List (AV × Option Blk)) : List (AV × Option Blk) := vs.map fun v => (kill l v.1, v.2)
structure Ph1 (P : Program) (st : St) (bl : List (Nat × Blk)) (ops : Array Oper) (pre : List Oper) (vs1 : List (AV × Option Blk)) (lo : Nat) (o : Oper) (l : Nat) (B' : Blk) (v0 : AV) : Prop where
  o0 : pre[vs1.length]? = some o
  f : ∀ (i : Nat) (o : Oper) (v : AV × Option Blk), lo ≤ i → pre[i]? = some o → vs1[i]? = some v → v.2 = none ∧ DFactE P st ops pre vs1 i o v
  app : AppF P st (bl ++ st.h) pre vs1 o l B' v0
theorem AppF.app {P : Program} {st : St} {hp : List (Nat × Blk)} {os : List Oper} {vs1 r : List (AV × Option Blk)} {o : Oper} {l : Nat} {B' : Blk} {v0 : AV} (hq : ∀ j ∈ dpreds o, j < vs1.length) (h : AppF P st hp os vs1 o l B' v0) : AppF P st hp os (vs1 ++ r) o l B' v0 := by
  have hview : dViewL st os (vs1 ++ r) [] o = dViewL st os vs1 [] o := by
    simp only [dViewL]
    rw [partT_app]
    intro j hj
    simp only [List.contains_eq_mem, decide_eq_false_iff_not]
    intro hm
    have := hq j hm
    omega
  obtain ⟨a, b, d⟩ := h
  rw [← hview] at d
  exact ⟨a, b, d⟩
theorem AW.da {P : Program} {id : Nat} {ops : Array Oper} {K : Exit → St → Prop} {st : St} {base : List (Nat × AV)} {pre : List Oper} (m : Nat) (hok : drawOk ops m = true)
    (hp : takeL m ops.toList = pre := by simp only [takeL]; exact rfl)
    (hb : dropTL (dsts pre) st.t = base := by simp only [dsts, dropTL, inL, List.cons_append, List.nil_append, List.append_nil, reduceIte, Nat.reduceEqDiff]; exact rfl)
    (h : ADP (AW P (.region id ops true) K st) P ops m st [] pre base 0 pre []) : AW P (.region id ops true) K st := by
  rw [takeL_eq] at hp
  rw [dropTL_eq] at hb
  subst hp
  exact h hok rfl hb.symm rfl (by intro i o v _ _ hv; simp at hv)
theorem ADP.app {G : Prop} {P : Program} {ops : Array Oper} {m lo : Nat} {st stK : St} {bl bl' : List (Nat × Blk)} {pre : List Oper} {base baseK : List (Nat × AV)} {o : Oper} {os : List Oper} {vs1 vs2 : List (AV × Option Blk)} {cl : Call} {sx xx : Operand} {s x : AV} {B B' : Blk} {v0 : AV} (l : Nat)
    (hop0 : o.op = .call cl := by exact rfl) (hargs : cl.args.toList = [sx, xx] := by exact rfl) (hd : dOk st.n o.dst = true := by exact rfl) (hg : o.guard = none := by exact rfl) (hB : get? l (bl ++ st.h) = some B := by simp only [List.cons_append, List.nil_append, get?, reduceIte, Nat.reduceEqDiff]; exact rfl)
    (hs : (dVw st pre base vs1 o).eval sx = some s := by
      simp only [dRunK, dStepL, dVw, pickT, predsL, inL, dEval, lOk, runK, stepL, memOp, pureOp, gOkL, dstAt, dOk, St.eval, St.evalO, get?, St.put, ins, del, AV.ofV, aBinAll, aBin, aBinI, aBinA, csEq, cEq, rI, isC, aUn, aConv, aStr, nums_by8, aIface, aNil, aCallB, aLen, aMinMax, intOf?, bnd, Go.Proofs.YtjeafkodcmbabaaDoor.E.ld, Go.Proofs.YtjeafkodcmbabaaDoor.E.part, Go.Proofs.YtjeafkodcmbabaaDoor.E.takeAgg_tk, Go.Proofs.YtjeafkodcmbabaaDoor.E.tk, aFieldAddr, aIndexAddr, aField, aIndex, aBuildSlice, cBuild, aAlloc, aStore, aApp, srcCells, aFill, mapM?, St.parts, St.new, St.drop, mapT, mapH, kill, kills, AV.cells, AV.fits, AV.one, AV.free, frees, splice, cyc, lab, Value.oneCell', Value.cells, Option.bind_some, Option.map_some, Option.bind_none, Option.map_none, decide_true, decide_false, if_true, if_false, reduceIte, reduceCtorEq, Bool.false_eq_true, Nat.reduceLT, Nat.reduceEqDiff, Nat.reduceAdd, Nat.reduceMul, Nat.reduceLeDiff, Nat.reduceSub, Nat.zero_add, Nat.add_zero, Nat.zero_mul, Nat.one_mul, Nat.mul_one, Int.toNat_natCast, Int.toNat_zero, List.drop_succ_cons, List.drop_zero, List.take_succ_cons, List.take_zero, List.length_cons, List.length_nil, List.head?_cons, List.map_cons, List.map_nil, List.all_cons, List.all_nil, List.cons_append, List.nil_append, List.append_nil, List.set_cons_zero, List.set_cons_succ, List.getElem?_cons_zero, List.getElem?_cons_succ, Bool.not_true, Bool.not_false, beq_true, beq_false, Bool.true_beq, Bool.false_beq, Bool.and_self, Bool.and_true, Bool.true_and, and_self, and_true, true_and, false_implies, true_implies, implies_true, bne_self_eq_false, beq_self_eq_true, Option.isSome_some, List.all, *]
      exact rfl)
    (hx : (dVw st pre base vs1 o).eval xx = some x := by
      simp only [dRunK, dStepL, dVw, pickT, predsL, inL, dEval, lOk, runK, stepL, memOp, pureOp, gOkL, dstAt, dOk, St.eval, St.evalO, get?, St.put, ins, del, AV.ofV, aBinAll, aBin, aBinI, aBinA, csEq, cEq, rI, isC, aUn, aConv, aStr, nums_by8, aIface, aNil, aCallB, aLen, aMinMax, intOf?, bnd, Go.Proofs.YtjeafkodcmbabaaDoor.E.ld, Go.Proofs.YtjeafkodcmbabaaDoor.E.part, Go.Proofs.YtjeafkodcmbabaaDoor.E.takeAgg_tk, Go.Proofs.YtjeafkodcmbabaaDoor.E.tk, aFieldAddr, aIndexAddr, aField, aIndex, aBuildSlice, cBuild, aAlloc, aStore, aApp, srcCells, aFill, mapM?, St.parts, St.new, St.drop, mapT, mapH, kill, kills, AV.cells, AV.fits, AV.one, AV.free, frees, splice, cyc, lab, Value.oneCell', Value.cells, Option.bind_some, Option.map_some, Option.bind_none, Option.map_none, decide_true, decide_false, if_true, if_false, reduceIte, reduceCtorEq, Bool.false_eq_true, Nat.reduceLT, Nat.reduceEqDiff, Nat.reduceAdd, Nat.reduceMul, Nat.reduceLeDiff, Nat.reduceSub, Nat.zero_add, Nat.add_zero, Nat.zero_mul, Nat.one_mul, Nat.mul_one, Int.toNat_natCast, Int.toNat_zero, List.drop_succ_cons, List.drop_zero, List.take_succ_cons, List.take_zero, List.length_cons, List.length_nil, List.head?_cons, List.map_cons, List.map_nil, List.all_cons, List.all_nil, List.cons_append, List.nil_append, List.append_nil, List.set_cons_zero, List.set_cons_succ, List.getElem?_cons_zero, List.getElem?_cons_succ, Bool.not_true, Bool.not_false, beq_true, beq_false, Bool.true_beq, Bool.false_beq, Bool.and_self, Bool.and_true, Bool.true_and, and_self, and_true, true_and, false_implies, true_implies, implies_true, bne_self_eq_false, beq_self_eq_true, Option.isSome_some, List.all, *]
      exact rfl)
    (hm : ∀ σ : St, σ.eval sx = some s → σ.eval xx = some x → get? l σ.h = some B → memOp P σ o.dst o.op = some (v0, (σ.drop l).new l B') := by
      intro σ h1_ h2_ h3_
      simp only [memOp, h1_, h2_, h3_, aApp, srcCells, Option.bind_some, Option.map_some, decide_true, decide_false, if_true, if_false, reduceIte, reduceCtorEq, Bool.false_eq_true, Nat.reduceLT, Nat.reduceEqDiff, Nat.reduceAdd, Nat.reduceMul, Nat.reduceLeDiff, Nat.reduceSub, Nat.zero_add, Nat.add_zero, Nat.zero_mul, Nat.one_mul, Nat.mul_one, List.cons_append, List.nil_append, List.append_nil, List.length_cons, List.length_nil, List.map_cons, List.map_nil, and_self, and_true, true_and, *]
      exact rfl)
    (hkl : klist l vs1 ++ [(v0, none)] = vs2 := by simp only [klist, List.map_cons, List.map_nil, kill, kills, reduceIte, Nat.reduceEqDiff, List.cons_append, List.nil_append]; exact rfl)
    (hK : st.drop l = stK := by simp only [St.drop, mapT, mapH, kill, kills, del, reduceIte, Nat.reduceEqDiff, Bool.false_eq_true]; exact rfl)
    (hbK : dropTL (dsts pre) stK.t = baseK := by simp only [dsts, dropTL, inL, List.cons_append, List.nil_append, List.append_nil, reduceIte, Nat.reduceEqDiff]; exact rfl)
    (hbl : (l, B') :: del l bl = bl' := by simp only [del, reduceIte, Nat.reduceEqDiff]; exact rfl)
    (h : ADP (Ph1 P st bl ops pre vs1 lo o l B' v0 → G) P ops m stK bl' pre baseK (vs1.length + 1) os vs2) : ADP G P ops m st bl pre base lo (o :: os) vs1 := by
  subst hkl hK hbl
  rw [dropTL_eq] at hbK
  intro hok hpre hbase hos hfs
  have ho : pre[vs1.length]? = some o := by
    have := congrArg (·[0]?) hos
    simpa using this
  refine h hok hpre hbK.symm (by simp only [klist, List.length_append, List.length_map, List.length_singleton]; rw [← List.drop_drop, hos]; rfl) ?_ ⟨ho, hfs, hd, hg, sx, xx, s, x, by rw [← dVw_L hbase]; exact hs, by rw [← dVw_L hbase]; exact hx, fun σ a b c => hm σ a b (c B hB)⟩
  intro i o' v' hlo _ hv'
  have := (List.getElem?_eq_some_iff.1 hv').1
  simp only [klist, List.length_append, List.length_map, List.length_singleton] at this
  omega
theorem St.new_idem (σ : St) (l : Nat) (B' : Blk) : (σ.drop l).new l B' = σ.new l B' := by
  have ht : ∀ t : List (Nat × AV), mapT (kill l) (mapT (kill l) t) = mapT (kill l) t := by
    intro t
    induction t with
    | nil => rfl
    | cons p t ih => obtain ⟨k, v⟩ := p; simp only [mapT, ih, kill_idem]
  have hh : ∀ h : List (Nat × Blk), mapH l (del l (mapH l (del l h))) = mapH l (del l h) := by
    intro h
    induction h with
    | nil => rfl
    | cons p h ih =>
      obtain ⟨k, C⟩ := p
      simp only [del]
      split
      · exact ih
      · rename_i hne
        simp only [mapH, del, if_neg hne, ih]
        congr 2
        cases hb : C.boxy
        · simp [hb]
        · simp [hb, kills_idem]
  unfold St.new
  have h1 : ((σ.drop l).drop l) = σ.drop l := by
    unfold St.drop
    simp only [ht, hh]
  rw [h1]
/-- an append to nothing: a row of its own -/
theorem ADP.app0 {G : Prop} {P : Program} {ops : Array Oper} {m lo : Nat} {st stK : St} {bl bl' : List (Nat × Blk)} {pre : List Oper} {base baseK : List (Nat × AV)} {o : Oper} {os : List Oper} {vs1 vs2 : List (AV × Option Blk)} {cl : Call} {sx xx : Operand} {s x : AV} {B' : Blk} {v0 : AV} (l : Nat)
    (hop0 : o.op = .call cl := by exact rfl) (hargs : cl.args.toList = [sx, xx] := by exact rfl) (hd : dOk st.n o.dst = true := by exact rfl) (hg : o.guard = none := by exact rfl)
    (hs : (dVw st pre base vs1 o).eval sx = some s := by
      simp only [dRunK, dStepL, dVw, pickT, predsL, inL, dEval, lOk, runK, stepL, memOp, pureOp, gOkL, dstAt, dOk, St.eval, St.evalO, get?, St.put, ins, del, AV.ofV, aBinAll, aBin, aBinI, aBinA, csEq, cEq, rI, isC, aUn, aConv, aStr, nums_by8, aIface, aNil, aCallB, aLen, aMinMax, intOf?, bnd, Go.Proofs.YtjeafkodcmbabaaDoor.E.ld, Go.Proofs.YtjeafkodcmbabaaDoor.E.part, Go.Proofs.YtjeafkodcmbabaaDoor.E.takeAgg_tk, Go.Proofs.YtjeafkodcmbabaaDoor.E.tk, aFieldAddr, aIndexAddr, aField, aIndex, aBuildSlice, cBuild, aAlloc, aStore, aApp, srcCells, aFill, mapM?, St.parts, St.new, St.drop, mapT, mapH, kill, kills, AV.cells, AV.fits, AV.one, AV.free, frees, splice, cyc, lab, Value.oneCell', Value.cells, Option.bind_some, Option.map_some, Option.bind_none, Option.map_none, decide_true, decide_false, if_true, if_false, reduceIte, reduceCtorEq, Bool.false_eq_true, Nat.reduceLT, Nat.reduceEqDiff, Nat.reduceAdd, Nat.reduceMul, Nat.reduceLeDiff, Nat.reduceSub, Nat.zero_add, Nat.add_zero, Nat.zero_mul, Nat.one_mul, Nat.mul_one, Int.toNat_natCast, Int.toNat_zero, List.drop_succ_cons, List.drop_zero, List.take_succ_cons, List.take_zero, List.length_cons, List.length_nil, List.head?_cons, List.map_cons, List.map_nil, List.all_cons, List.all_nil, List.cons_append, List.nil_append, List.append_nil, List.set_cons_zero, List.set_cons_succ, List.getElem?_cons_zero, List.getElem?_cons_succ, Bool.not_true, Bool.not_false, beq_true, beq_false, Bool.true_beq, Bool.false_beq, Bool.and_self, Bool.and_true, Bool.true_and, and_self, and_true, true_and, false_implies, true_implies, implies_true, bne_self_eq_false, beq_self_eq_true, Option.isSome_some, List.all, *]
      exact rfl)
    (hx : (dVw st pre base vs1 o).eval xx = some x := by
      simp only [dRunK, dStepL, dVw, pickT, predsL, inL, dEval, lOk, runK, stepL, memOp, pureOp, gOkL, dstAt, dOk, St.eval, St.evalO, get?, St.put, ins, del, AV.ofV, aBinAll, aBin, aBinI, aBinA, csEq, cEq, rI, isC, aUn, aConv, aStr, nums_by8, aIface, aNil, aCallB, aLen, aMinMax, intOf?, bnd, Go.Proofs.YtjeafkodcmbabaaDoor.E.ld, Go.Proofs.YtjeafkodcmbabaaDoor.E.part, Go.Proofs.YtjeafkodcmbabaaDoor.E.takeAgg_tk, Go.Proofs.YtjeafkodcmbabaaDoor.E.tk, aFieldAddr, aIndexAddr, aField, aIndex, aBuildSlice, cBuild, aAlloc, aStore, aApp, srcCells, aFill, mapM?, St.parts, St.new, St.drop, mapT, mapH, kill, kills, AV.cells, AV.fits, AV.one, AV.free, frees, splice, cyc, lab, Value.oneCell', Value.cells, Option.bind_some, Option.map_some, Option.bind_none, Option.map_none, decide_true, decide_false, if_true, if_false, reduceIte, reduceCtorEq, Bool.false_eq_true, Nat.reduceLT, Nat.reduceEqDiff, Nat.reduceAdd, Nat.reduceMul, Nat.reduceLeDiff, Nat.reduceSub, Nat.zero_add, Nat.add_zero, Nat.zero_mul, Nat.one_mul, Nat.mul_one, Int.toNat_natCast, Int.toNat_zero, List.drop_succ_cons, List.drop_zero, List.take_succ_cons, List.take_zero, List.length_cons, List.length_nil, List.head?_cons, List.map_cons, List.map_nil, List.all_cons, List.all_nil, List.cons_append, List.nil_append, List.append_nil, List.set_cons_zero, List.set_cons_succ, List.getElem?_cons_zero, List.getElem?_cons_succ, Bool.not_true, Bool.not_false, beq_true, beq_false, Bool.true_beq, Bool.false_beq, Bool.and_self, Bool.and_true, Bool.true_and, and_self, and_true, true_and, false_implies, true_implies, implies_true, bne_self_eq_false, beq_self_eq_true, Option.isSome_some, List.all, *]
      exact rfl)
    (hm : ∀ σ : St, σ.eval sx = some s → σ.eval xx = some x → memOp P σ o.dst o.op = some (v0, σ.new l B') := by
      intro σ h1_ h2_
      simp only [memOp, h1_, h2_, aApp, srcCells, lab, Option.bind_some, Option.map_some, decide_true, decide_false, if_true, if_false, reduceIte, reduceCtorEq, Bool.false_eq_true, Nat.reduceLT, Nat.reduceEqDiff, Nat.reduceAdd, Nat.reduceMul, Nat.reduceLeDiff, Nat.reduceSub, Nat.zero_add, Nat.add_zero, Nat.zero_mul, Nat.one_mul, Nat.mul_one, List.cons_append, List.nil_append, List.append_nil, List.length_cons, List.length_nil, List.map_cons, List.map_nil, and_self, and_true, true_and, *]
      exact rfl)
    (hkl : klist l vs1 ++ [(v0, none)] = vs2 := by simp only [klist, List.map_cons, List.map_nil, kill, kills, reduceIte, Nat.reduceEqDiff, List.cons_append, List.nil_append]; exact rfl)
    (hK : st.drop l = stK := by simp only [St.drop, mapT, mapH, kill, kills, del, reduceIte, Nat.reduceEqDiff, Bool.false_eq_true]; exact rfl)
    (hbK : dropTL (dsts pre) stK.t = baseK := by simp only [dsts, dropTL, inL, List.cons_append, List.nil_append, List.append_nil, reduceIte, Nat.reduceEqDiff]; exact rfl)
    (hbl : (l, B') :: del l bl = bl' := by simp only [del, reduceIte, Nat.reduceEqDiff]; exact rfl)
    (h : ADP (Ph1 P st bl ops pre vs1 lo o l B' v0 → G) P ops m stK bl' pre baseK (vs1.length + 1) os vs2) : ADP G P ops m st bl pre base lo (o :: os) vs1 := by
  subst hkl hK hbl
  rw [dropTL_eq] at hbK
  intro hok hpre hbase hos hfs
  have ho : pre[vs1.length]? = some o := by
    have := congrArg (·[0]?) hos
    simpa using this
  refine h hok hpre hbK.symm (by simp only [klist, List.length_append, List.length_map, List.length_singleton]; rw [← List.drop_drop, hos]; rfl) ?_ ⟨ho, hfs, hd, hg, sx, xx, s, x, by rw [← dVw_L hbase]; exact hs, by rw [← dVw_L hbase]; exact hx, fun σ a b _ => by rw [St.new_idem]; exact hm σ a b⟩
  intro i o' v' hlo _ hv'
  have := (List.getElem?_eq_some_iff.1 hv').1
  simp only [klist, List.length_append, List.length_map, List.length_singleton] at this
  omega
/-- a literal without elements -/
theorem ADP.emp {G : Prop} {P : Program} {ops : Array Oper} {m : Nat} {stv : St} {bl : List (Nat × Blk)} {pre : List Oper} {base : List (Nat × AV)} {lo : Nat} {o : Oper} {os : List Oper} {vs vs' : List (AV × Option Blk)} {t e z : Nat} (hop : o.op = .buildSlice t 0 #[] := by exact rfl) (hg : o.guard = none := by exact rfl) (hd : dOk stv.n o.dst = true := by exact rfl) (he : tSlice P t = some e := by first | exact rfl | simp only [*]) (hz : tSz P e = some z := by first | exact rfl | simp only [*])
    (hvs : vs ++ [(.emp, none)] = vs' := by simp only [List.cons_append, List.nil_append]; exact rfl) (h : ADP G P ops m stv bl pre base lo os vs') : ADP G P ops m stv bl pre base lo (o :: os) vs := by
  subst hvs
  exact ADP.snoc rfl (fun _ _ _ => .inr ⟨hd, t, e, z, hop, hg, rfl, he, hz⟩) h
theorem ADP.fin {P : Program} {id : Nat} {ops : Array Oper} {K : Exit → St → Prop} {m n : Nat} {st : St} {pre : List Oper} {baseC t : List (Nat × AV)} {hh : List (Nat × Blk)} {vsC : List (AV × Option Blk)} {stC : St} {os' : List Oper} {bl : List (Nat × Blk)}
    (hbase : baseC = dropTs (dsts pre) stC.t) (ht : insAll baseC pre vsC = t) (hhh : ∀ p ∈ hh, p ∈ bl ++ stC.h) (hn : st.n = n)
    (hos' : dropL m ops.toList = os') (hT : AOL P ops os' (K .normal) ⟨n, t, hh⟩) : AOps P ops (List.range' m (ops.size - m)) (K .normal) (dSt ⟨st.n, stC.t, bl ++ stC.h⟩ pre vsC fun _ => true) := by
  rw [dropL_eq] at hos'
  subst hos'
  have hT' := hT m rfl
  rw [List.length_drop, Array.length_toList] at hT'
  refine AOps.sub ?_ hT'
  intro ρ F a w hR
  refine ⟨ρ, F, hR.subset ?_ ?_ ?_, Fr.refl _ _ _⟩
  · exact hn.symm
  · intro p hp
    subst ht
    simp only [dSt, List.mem_append]
    rw [dstsS_true]
    subst hbase
    rcases mem_insAll (i := 0) hp with h | h
    · exact .inl h
    · exact .inr h
  · intro p hp
    simp only [dSt]
    exact List.mem_append.2 (.inr (hhh p hp))
theorem mem_of_map {α β : Type} {f g : α → β} {L : List α} (h : L.map f = L.map g) : ∀ v ∈ L, f v = g v := by
  intro v hv
  obtain ⟨k, hk⟩ := List.mem_iff_getElem?.1 hv
  have := congrArg (·[k]?) h
  simpa [hk] using this
/-- one append -/
theorem ADP.done {P : Program} {id : Nat} {ops : Array Oper} {K : Exit → St → Prop} {m n : Nat} {st stK : St} {bl : List (Nat × Blk)} {pre : List Oper} {baseK t : List (Nat × AV)} {hh : List (Nat × Blk)} {o : Oper} {vs1 vsA vs3 : List (AV × Option Blk)} {l : Nat} {B' : Blk} {v0 : AV} (hmix : P.follows .mixedOrders = true) (hanc : ancOk ops vs1.length = true) (hlen : vsA.length = m)
    (hA : klist l vs1 ++ (v0, none) :: vs3 = vsA := by exact rfl) (hk : vs3.map (fun v => kill l v.1) = vs3.map (·.1) := by simp only [List.map_cons, List.map_nil, kill, kills, reduceIte, Nat.reduceEqDiff])
    (hbx : B'.boxy = false := by exact rfl) (hn : st.n = n := by exact rfl)
    (hK : st.drop l = stK := by simp only [St.drop, mapT, mapH, kill, kills, del, reduceIte, Nat.reduceEqDiff, Bool.false_eq_true]) (ht : insAll baseK pre vsA = t := by simp only [insAll, ins, del, reduceIte, Nat.reduceLT, Nat.reduceEqDiff]; exact rfl) (hbl : [(l, B')] = bl := by exact rfl) (hhh : insL bl stK.h = hh := by simp only [insL, ins, del, reduceIte, Nat.reduceLT, Nat.reduceEqDiff]; exact rfl)
    {os' : List Oper} (hos' : dropL m ops.toList = os' := by simp only [dropL]; exact rfl) (hT : AOL P ops os' (K .normal) ⟨n, t, hh⟩) : ADP (Ph1 P st [] ops pre vs1 0 o l B' v0 → AW P (.region id ops true) K st) P ops m stK bl pre baseK (vs1.length + 1) [] vsA := by
  intro hok hpre hbase hos hfs p1
  simp only [drawOk, Bool.and_eq_true, decide_eq_true_eq] at hok
  obtain ⟨h1, h2, h3, h4⟩ := hok
  subst hpre
  have hkk := mem_of_map hk
  have hl3 : vs1.length + 1 + vs3.length = m := by
    rw [← hlen, ← hA]
    simp only [klist, List.length_append, List.length_map, List.length_cons]
    omega
  have hpl : (ops.toList.take m).length = m := by rw [List.length_take, Array.length_toList]; omega
  have hedge : ∀ (i : Nat) (o : Oper), (ops.toList.take m)[i]? = some o → ∀ j ∈ dpreds o, j < i := by
    intro i o' ho' j hj
    have h9 : ops.toList[i]? = some o' := by
      rw [List.getElem?_take] at ho'
      split at ho'
      · exact ho'
      · cases ho'
    have := edgesOk_lt h1 i o' h9 j hj
    omega
  have getO : ∀ i, i < m → ∃ o', (ops.toList.take m)[i]? = some o' := fun i hi => ⟨_, List.getElem?_eq_getElem (by rw [hpl]; exact hi)⟩
  have hr1 : klistTo vs1.length l (vs1 ++ (v0, none) :: vs3) = vsA := by
    rw [← hA]
    have : ∀ (a b : List (AV × Option Blk)), klistTo a.length l (a ++ b) = klist l a ++ b := by
      intro a b
      induction a with
      | nil => rfl
      | cons x a ih => simp only [List.length_cons, List.cons_append, klistTo, ih, klist, List.map_cons]
    exact this _ _
  subst hK
  refine AW.drawC (C := 1) (cut := fun _ => vs1.length) (lb := fun _ => l) (B' := fun _ => B') (v0 := fun _ => v0) (sv := fun q => match q with | 0 => st | _ + 1 => st.drop l) (vs := fun q => match q with | 0 => vs1 ++ (v0, none) :: vs3 | _ + 1 => vsA) hmix h4 h2 (nodupB_iff h3) (fun q hq => by omega) (fun q hq => by omega) (fun _ => false) (fun _ _ => rfl) (fun q hq => AncP.all hanc)
    rfl (fun q hq => by obtain rfl : q = 0 := by omega
                        rfl) (by simp; omega) ?_ (fun q hq => by obtain rfl : q = 0 := by omega
                                                                 exact hr1.symm) ?_ (fun q hq => by obtain rfl : q = 0 := by omega
                                                                                                    simp) (fun q hq => hbx) ?_ ?_ (fun c i o' v _ h => by cases h) ?_
  · intro v hv
    rcases List.mem_append.1 hv with hv | hv
    · obtain ⟨k, hk1⟩ := List.mem_iff_getElem?.1 hv
      obtain ⟨o', ho'⟩ := getO k (by have := (List.getElem?_eq_some_iff.1 hk1).1; omega)
      exact (p1.f k o' v (Nat.zero_le _) ho' hk1).1
    · rcases List.mem_cons.1 hv with rfl | hv
      · rfl
      · obtain ⟨k, hk1⟩ := List.mem_iff_getElem?.1 hv
        have hkl := (List.getElem?_eq_some_iff.1 hk1).1
        obtain ⟨o', ho'⟩ := getO (vs1.length + 1 + k) (by omega)
        refine (hfs (vs1.length + 1 + k) o' v (by omega) ho' ?_).1
        rw [← hA, List.getElem?_append_right (by simp; omega)]
        rw [show vs1.length + 1 + k - (klist l vs1).length = k + 1 by simp; omega]
        simpa using hk1
  · intro q j v hq hj hjc hv
    obtain rfl : q = 0 := by omega
    simp only at hv hj ⊢
    rw [List.getElem?_append_right (by omega)] at hv
    obtain ⟨k, hk1⟩ : ∃ k, j - vs1.length = k + 1 := ⟨j - vs1.length - 1, by omega⟩
    rw [hk1, List.getElem?_cons_succ] at hv
    exact hkk v (List.mem_of_getElem? hv)
  · intro q o' hq ho'
    obtain rfl : q = 0 := by omega
    have : o' = o := by rw [p1.o0] at ho'; exact (Option.some.inj ho').symm
    subst this
    exact p1.app.app fun j hj => hedge _ _ ho' j hj
  · intro c i o' v hc hlt hgt ho' hv
    rcases (show c = 0 ∨ c = 1 by omega) with rfl | rfl
    · have hi := hgt 0 (Nat.le_refl _) (by omega)
      simp only at hi hv ⊢
      rw [List.getElem?_append_left hi] at hv
      exact (p1.f i o' v (Nat.zero_le _) ho' hv).2.app fun j hj => by have := hedge i o' ho' j hj; omega
    · have hi := hlt 0 (by omega)
      simp only at hi hv ⊢
      exact (hfs i o' v (by omega) ho' hv).2
  · refine ADP.fin (id := id) (bl := [(l, B')]) hbase ht ?_ hn hos' hT
    intro p hp
    subst hhh hbl
    exact mem_insL hp
/-- one append, beside which some moves of slots float -/
theorem ADP.doneF {P : Program} {id : Nat} {ops : Array Oper} {K : Exit → St → Prop} {m n : Nat} {st stK : St} {bl : List (Nat × Blk)} {pre : List Oper} {baseK t : List (Nat × AV)} {hh : List (Nat × Blk)} {o : Oper} {vs1 vsA vs3 : List (AV × Option Blk)} {l : Nat} {B' : Blk} {v0 : AV} (hmix : P.follows .mixedOrders = true) (fls : List (Nat × Nat)) (hanc : ancF ops fls vs1.length = true) (hlen : vsA.length = m)
    (hA : klist l vs1 ++ (v0, none) :: vs3 = vsA := by exact rfl) (hk : vs3.map (fun v => kill l v.1) = vs3.map (·.1) := by simp only [List.map_cons, List.map_nil, kill, kills, reduceIte, Nat.reduceEqDiff])
    (hbx : B'.boxy = false := by exact rfl) (hn : st.n = n := by exact rfl)
    (hK : st.drop l = stK := by simp only [St.drop, mapT, mapH, kill, kills, del, reduceIte, Nat.reduceEqDiff, Bool.false_eq_true]) (ht : insAll baseK pre vsA = t := by simp only [insAll, ins, del, reduceIte, Nat.reduceLT, Nat.reduceEqDiff]; exact rfl) (hbl : [(l, B')] = bl := by exact rfl) (hhh : insL bl stK.h = hh := by simp only [insL, ins, del, reduceIte, Nat.reduceLT, Nat.reduceEqDiff]; exact rfl)
    (hF : ∀ p ∈ fls, ∃ o d w, p.1 < vs1.length ∧ pre[p.1]? = some o ∧ o.op = .move (.tmp p.2) ∧ dOk stK.n o.dst = true ∧ o.dst = some d ∧ dpreds o = [] ∧ o.guard = none ∧ vsA[p.1]? = some (w, none) ∧ get? p.2 baseK = some w)
    {os' : List Oper} (hos' : dropL m ops.toList = os' := by simp only [dropL]; exact rfl) (hT : AOL P ops os' (K .normal) ⟨n, t, hh⟩) : ADP (Ph1 P st [] ops pre vs1 0 o l B' v0 → AW P (.region id ops true) K st) P ops m stK bl pre baseK (vs1.length + 1) [] vsA := by
  intro hok hpre hbase hos hfs p1
  simp only [drawOk, Bool.and_eq_true, decide_eq_true_eq] at hok
  obtain ⟨h1, h2, h3, h4⟩ := hok
  subst hpre
  have hkk := mem_of_map hk
  have hl3 : vs1.length + 1 + vs3.length = m := by
    rw [← hlen, ← hA]
    simp only [klist, List.length_append, List.length_map, List.length_cons]
    omega
  have hpl : (ops.toList.take m).length = m := by rw [List.length_take, Array.length_toList]; omega
  have hedge : ∀ (i : Nat) (o : Oper), (ops.toList.take m)[i]? = some o → ∀ j ∈ dpreds o, j < i := by
    intro i o' ho' j hj
    have h9 : ops.toList[i]? = some o' := by
      rw [List.getElem?_take] at ho'
      split at ho'
      · exact ho'
      · cases ho'
    have := edgesOk_lt h1 i o' h9 j hj
    omega
  have getO : ∀ i, i < m → ∃ o', (ops.toList.take m)[i]? = some o' := fun i hi => ⟨_, List.getElem?_eq_getElem (by rw [hpl]; exact hi)⟩
  have hr1 : klistTo vs1.length l (vs1 ++ (v0, none) :: vs3) = vsA := by
    rw [← hA]
    have : ∀ (a b : List (AV × Option Blk)), klistTo a.length l (a ++ b) = klist l a ++ b := by
      intro a b
      induction a with
      | nil => rfl
      | cons x a ih => simp only [List.length_cons, List.cons_append, klistTo, ih, klist, List.map_cons]
    exact this _ _
  have hfle : ∀ j, (fls.any fun p => p.1 == j) = true → ∃ p ∈ fls, p.1 = j := by
    intro j h
    obtain ⟨p, hp, e⟩ := List.any_eq_true.1 h
    exact ⟨p, hp, by simpa using e⟩
  subst hK
  refine AW.drawC (C := 1) (cut := fun _ => vs1.length) (lb := fun _ => l) (B' := fun _ => B') (v0 := fun _ => v0) (sv := fun q => match q with | 0 => st | _ + 1 => st.drop l) (vs := fun q => match q with | 0 => vs1 ++ (v0, none) :: vs3 | _ + 1 => vsA) hmix h4 h2 (nodupB_iff h3) (fun q hq => by omega) (fun q hq => by omega) (fun j => fls.any fun p => p.1 == j) ?_ (fun q hq => AncP.flo hanc)
    rfl (fun q hq => by obtain rfl : q = 0 := by omega
                        rfl) (by simp; omega) ?_ (fun q hq => by obtain rfl : q = 0 := by omega
                                                                 exact hr1.symm) ?_ (fun q hq => by obtain rfl : q = 0 := by omega
                                                                                                    simp) (fun q hq => hbx) ?_ ?_ ?_ ?_
  · intro q hq
    cases h : (fls.any fun p => p.1 == vs1.length) with
    | false => rfl
    | true =>
      obtain ⟨p, hp, e⟩ := hfle _ h
      obtain ⟨_, _, _, h7, _⟩ := hF p hp
      omega
  · intro v hv
    rcases List.mem_append.1 hv with hv | hv
    · obtain ⟨k, hk1⟩ := List.mem_iff_getElem?.1 hv
      obtain ⟨o', ho'⟩ := getO k (by have := (List.getElem?_eq_some_iff.1 hk1).1; omega)
      exact (p1.f k o' v (Nat.zero_le _) ho' hk1).1
    · rcases List.mem_cons.1 hv with rfl | hv
      · rfl
      · obtain ⟨k, hk1⟩ := List.mem_iff_getElem?.1 hv
        have hkl := (List.getElem?_eq_some_iff.1 hk1).1
        obtain ⟨o', ho'⟩ := getO (vs1.length + 1 + k) (by omega)
        refine (hfs (vs1.length + 1 + k) o' v (by omega) ho' ?_).1
        rw [← hA, List.getElem?_append_right (by simp; omega)]
        rw [show vs1.length + 1 + k - (klist l vs1).length = k + 1 by simp; omega]
        simpa using hk1
  · intro q j v hq hj hjc hv
    obtain rfl : q = 0 := by omega
    simp only at hv hj ⊢
    rw [List.getElem?_append_right (by omega)] at hv
    obtain ⟨k, hk1⟩ : ∃ k, j - vs1.length = k + 1 := ⟨j - vs1.length - 1, by omega⟩
    rw [hk1, List.getElem?_cons_succ] at hv
    exact hkk v (List.mem_of_getElem? hv)
  · intro q o' hq ho'
    obtain rfl : q = 0 := by omega
    have : o' = o := by rw [p1.o0] at ho'; exact (Option.some.inj ho').symm
    subst this
    exact p1.app.app fun j hj => hedge _ _ ho' j hj
  · intro c i o' v hc hlt hgt ho' hv
    rcases (show c = 0 ∨ c = 1 by omega) with rfl | rfl
    · have hi := hgt 0 (Nat.le_refl _) (by omega)
      simp only at hi hv ⊢
      rw [List.getElem?_append_left hi] at hv
      exact (p1.f i o' v (Nat.zero_le _) ho' hv).2.app fun j hj => by have := hedge i o' ho' j hj; omega
    · have hi := hlt 0 (by omega)
      simp only at hi hv ⊢
      exact (hfs i o' v (by omega) ho' hv).2
  · intro c i o' v hc hfi ho' hv
    obtain ⟨p, hp, rfl⟩ := hfle i hfi
    obtain ⟨o2, d, w, h7, g1, g2, g3, g4, g5, g6, g7, g8⟩ := hF p hp
    rcases (show c = 0 ∨ c = 1 by omega) with rfl | rfl
    · simp only at hv ⊢
      rw [List.getElem?_append_left h7] at hv
      exact (p1.f p.1 o' v (Nat.zero_le _) ho' hv).2.app fun j hj => by have := hedge p.1 o' ho' j hj; omega
    · simp only at hv ⊢
      rw [g1] at ho'; cases ho'
      rw [g7] at hv; cases hv
      refine .inl ⟨g3, [], LateOk.nil _ _ _, .inr ⟨by simp [gOk, g6], .inl ?_⟩⟩
      have e1 : partT (fun j => (dpreds o').contains j) 0 (ops.toList.take m) vsA = [] := by
        refine List.eq_nil_iff_forall_not_mem.2 fun q hq => ?_
        obtain ⟨_, _, _, _, _, h8, _⟩ := mem_partT.1 hq
        rw [g5] at h8; simp at h8
      have e2 : (dViewL (st.drop l) (ops.toList.take m) vsA [] o').eval (.tmp p.2) = some w := by
        simp only [St.eval, dViewL, e1, List.nil_append]
        rw [← hbase]; exact g8
      simp only [dEval, g2, g4, pureOp, e2, Option.map_some]
  · refine ADP.fin (id := id) (bl := [(l, B')]) hbase ht ?_ hn hos' hT
    intro p hp
    subst hhh hbl
    exact mem_insL hp
/-- two appends -/
theorem ADP.done2 {P : Program} {id : Nat} {ops : Array Oper} {K : Exit → St → Prop} {m n : Nat} {st st1 stK : St} {bl : List (Nat × Blk)} {pre : List Oper} {baseK t : List (Nat × AV)} {hh : List (Nat × Blk)} {o1 o2 : Oper} {vs1 w2 vs2 vsA vs3 : List (AV × Option Blk)} {l1 l2 : Nat} {B1' B2' : Blk} {v1 v2 : AV} (hmix : P.follows .mixedOrders = true) (hanc : ancOk ops vs1.length = true) (hanc2 : ancOk ops vs2.length = true) (hlen : vsA.length = m)
    (hA1 : klist l1 vs1 ++ (v1, none) :: w2 = vs2 := by exact rfl) (hA : klist l2 vs2 ++ (v2, none) :: vs3 = vsA := by exact rfl) (hk1 : (w2 ++ vs3).map (fun v => kill l1 v.1) = (w2 ++ vs3).map (·.1) := by simp only [List.cons_append, List.nil_append, List.map_cons, List.map_nil, kill, kills, reduceIte, Nat.reduceEqDiff]) (hk : vs3.map (fun v => kill l2 v.1) = vs3.map (·.1) := by simp only [List.map_cons, List.map_nil, kill, kills, reduceIte, Nat.reduceEqDiff])
    (hbx1 : B1'.boxy = false := by exact rfl) (hbx2 : B2'.boxy = false := by exact rfl) (hn : st.n = n := by exact rfl)
    (hK1 : st.drop l1 = st1 := by simp only [St.drop, mapT, mapH, kill, kills, del, reduceIte, Nat.reduceEqDiff, Bool.false_eq_true]) (hK : st1.drop l2 = stK := by simp only [St.drop, mapT, mapH, kill, kills, del, reduceIte, Nat.reduceEqDiff, Bool.false_eq_true]) (ht : insAll baseK pre vsA = t := by simp only [insAll, ins, del, reduceIte, Nat.reduceLT, Nat.reduceEqDiff]; exact rfl) (hbl : (l2, B2') :: del l2 [(l1, B1')] = bl := by simp only [del, reduceIte, Nat.reduceEqDiff]) (hhh : insL bl stK.h = hh := by simp only [insL, ins, del, reduceIte, Nat.reduceLT, Nat.reduceEqDiff]; exact rfl)
    {os' : List Oper} (hos' : dropL m ops.toList = os' := by simp only [dropL]; exact rfl) (hT : AOL P ops os' (K .normal) ⟨n, t, hh⟩) : ADP (Ph1 P st1 [(l1, B1')] ops pre vs2 (vs1.length + 1) o2 l2 B2' v2 → Ph1 P st [] ops pre vs1 0 o1 l1 B1' v1 → AW P (.region id ops true) K st) P ops m stK bl pre baseK (vs2.length + 1) [] vsA := by
  intro hok hpre hbase hos hfs p2 p1
  simp only [drawOk, Bool.and_eq_true, decide_eq_true_eq] at hok
  obtain ⟨h1, h2, h3, h4⟩ := hok
  subst hpre
  have hkk := mem_of_map hk
  have hkk1 := mem_of_map hk1
  have hl2 : vs1.length + 1 + w2.length = vs2.length := by
    rw [← hA1]
    simp only [klist, List.length_append, List.length_map, List.length_cons]
    omega
  have hl3 : vs2.length + 1 + vs3.length = m := by
    rw [← hlen, ← hA]
    simp only [klist, List.length_append, List.length_map, List.length_cons]
    omega
  have hpl : (ops.toList.take m).length = m := by rw [List.length_take, Array.length_toList]; omega
  have hedge : ∀ (i : Nat) (o : Oper), (ops.toList.take m)[i]? = some o → ∀ j ∈ dpreds o, j < i := by
    intro i o' ho' j hj
    have h9 : ops.toList[i]? = some o' := by
      rw [List.getElem?_take] at ho'
      split at ho'
      · exact ho'
      · cases ho'
    have := edgesOk_lt h1 i o' h9 j hj
    omega
  have getO : ∀ i, i < m → ∃ o', (ops.toList.take m)[i]? = some o' := fun i hi => ⟨_, List.getElem?_eq_getElem (by rw [hpl]; exact hi)⟩
  have kt : ∀ (l : Nat) (a b : List (AV × Option Blk)), klistTo a.length l (a ++ b) = klist l a ++ b := by
    intro l a b
    induction a with
    | nil => rfl
    | cons x a ih => simp only [List.length_cons, List.cons_append, klistTo, ih, klist, List.map_cons]
  have hr1 : klistTo vs1.length l1 (vs1 ++ (v1, none) :: (w2 ++ (v2, none) :: vs3)) = vs2 ++ (v2, none) :: vs3 := by
    rw [kt, ← hA1]; simp
  have hr2 : klistTo vs2.length l2 (vs2 ++ (v2, none) :: vs3) = vsA := by rw [kt, ← hA]
  subst hK1
  subst hK
  have at2 : ∀ k v, w2[k]? = some v → vs2[vs1.length + 1 + k]? = some v := by
    intro k v hk1
    rw [← hA1, List.getElem?_append_right (by simp; omega)]
    rw [show vs1.length + 1 + k - (klist l1 vs1).length = k + 1 by simp; omega]
    simpa using hk1
  have at3 : ∀ k v, vs3[k]? = some v → vsA[vs2.length + 1 + k]? = some v := by
    intro k v hk1
    rw [← hA, List.getElem?_append_right (by simp; omega)]
    rw [show vs2.length + 1 + k - (klist l2 vs2).length = k + 1 by simp; omega]
    simpa using hk1
  refine AW.drawC (C := 2) (cut := fun q => match q with | 0 => vs1.length | _ + 1 => vs2.length) (lb := fun q => match q with | 0 => l1 | _ + 1 => l2) (B' := fun q => match q with | 0 => B1' | _ + 1 => B2') (v0 := fun q => match q with | 0 => v1 | _ + 1 => v2) (sv := fun q => match q with | 0 => st | 1 => st.drop l1 | _ + 2 => (st.drop l1).drop l2) (vs := fun q => match q with | 0 => vs1 ++ (v1, none) :: (w2 ++ (v2, none) :: vs3) | 1 => vs2 ++ (v2, none) :: vs3 | _ + 2 => vsA) hmix h4 h2 (nodupB_iff h3) ?_ ?_ (fun _ => false) (fun _ _ => rfl) ?_ rfl ?_ (by simp; omega) ?_ ?_ ?_ ?_ ?_ ?_ ?_ (fun c i o' v _ h => by cases h) ?_
  · intro q hq; rcases (show q = 0 ∨ q = 1 by omega) with rfl | rfl <;> simp only <;> omega
  · intro q hq; obtain rfl : q = 0 := by omega
    simp only; omega
  · intro q hq; rcases (show q = 0 ∨ q = 1 by omega) with rfl | rfl
    · exact AncP.all hanc
    · exact AncP.all hanc2
  · intro q hq; rcases (show q = 0 ∨ q = 1 by omega) with rfl | rfl <;> rfl
  · intro v hv
    rcases List.mem_append.1 hv with hv | hv
    · obtain ⟨k, hk1⟩ := List.mem_iff_getElem?.1 hv
      obtain ⟨o', ho'⟩ := getO k (by have := (List.getElem?_eq_some_iff.1 hk1).1; omega)
      exact (p1.f k o' v (Nat.zero_le _) ho' hk1).1
    · rcases List.mem_cons.1 hv with rfl | hv
      · rfl
      · rcases List.mem_append.1 hv with hv | hv
        · obtain ⟨k, hk1⟩ := List.mem_iff_getElem?.1 hv
          have hkl := (List.getElem?_eq_some_iff.1 hk1).1
          obtain ⟨o', ho'⟩ := getO (vs1.length + 1 + k) (by omega)
          exact (p2.f _ o' v (by omega) ho' (at2 k v hk1)).1
        · rcases List.mem_cons.1 hv with rfl | hv
          · rfl
          · obtain ⟨k, hk1⟩ := List.mem_iff_getElem?.1 hv
            have hkl := (List.getElem?_eq_some_iff.1 hk1).1
            obtain ⟨o', ho'⟩ := getO (vs2.length + 1 + k) (by omega)
            exact (hfs _ o' v (by omega) ho' (at3 k v hk1)).1
  · intro q hq; rcases (show q = 0 ∨ q = 1 by omega) with rfl | rfl
    · exact hr1.symm
    · exact hr2.symm
  · intro q j v hq hj hjc hv
    rcases (show q = 0 ∨ q = 1 by omega) with rfl | rfl
    · simp only at hv hj ⊢
      rw [List.getElem?_append_right (by omega)] at hv
      obtain ⟨k, hk1⟩ : ∃ k, j - vs1.length = k + 1 := ⟨j - vs1.length - 1, by omega⟩
      rw [hk1, List.getElem?_cons_succ] at hv
      have h9 := hjc 1 (by omega)
      simp only at h9
      refine hkk1 v ?_
      rcases Nat.lt_or_ge k w2.length with hlt | hge
      · rw [List.getElem?_append_left hlt] at hv
        exact List.mem_append.2 (.inl (List.mem_of_getElem? hv))
      · rw [List.getElem?_append_right hge] at hv
        obtain ⟨q, hq⟩ : ∃ q, k - w2.length = q + 1 := ⟨k - w2.length - 1, by omega⟩
        rw [hq, List.getElem?_cons_succ] at hv
        exact List.mem_append.2 (.inr (List.mem_of_getElem? hv))
    · simp only at hv hj ⊢
      rw [List.getElem?_append_right (by omega)] at hv
      obtain ⟨k, hk1⟩ : ∃ k, j - vs2.length = k + 1 := ⟨j - vs2.length - 1, by omega⟩
      rw [hk1, List.getElem?_cons_succ] at hv
      exact hkk v (List.mem_of_getElem? hv)
  · intro q hq; rcases (show q = 0 ∨ q = 1 by omega) with rfl | rfl <;> simp
  · intro q hq; rcases (show q = 0 ∨ q = 1 by omega) with rfl | rfl
    · exact hbx1
    · exact hbx2
  · intro q o' hq ho'
    rcases (show q = 0 ∨ q = 1 by omega) with rfl | rfl
    · have : o' = o1 := by rw [p1.o0] at ho'; exact (Option.some.inj ho').symm
      subst this
      exact p1.app.app fun j hj => hedge _ _ ho' j hj
    · have : o' = o2 := by rw [p2.o0] at ho'; exact (Option.some.inj ho').symm
      subst this
      exact p2.app.app fun j hj => hedge _ _ ho' j hj
  · intro c i o' v hc hlt hgt ho' hv
    rcases (show c = 0 ∨ c = 1 ∨ c = 2 by omega) with rfl | rfl | rfl
    · have hi := hgt 0 (Nat.le_refl _) (by omega)
      simp only at hi hv ⊢
      rw [List.getElem?_append_left hi] at hv
      exact (p1.f i o' v (Nat.zero_le _) ho' hv).2.app fun j hj => by have := hedge i o' ho' j hj; omega
    · have hi := hlt 0 (by omega)
      have hi2 := hgt 1 (Nat.le_refl _) (by omega)
      simp only at hi hi2 hv ⊢
      rw [List.getElem?_append_left hi2] at hv
      exact (p2.f i o' v (by omega) ho' hv).2.app fun j hj => by have := hedge i o' ho' j hj; omega
    · have hi := hlt 1 (by omega)
      simp only at hi hv ⊢
      exact (hfs i o' v (by omega) ho' hv).2
  · subst hbl
    refine ADP.fin (id := id) hbase ht ?_ hn hos' hT
    intro p hp
    subst hhh
    exact mem_insL hp
end Go.Proofs.YtjeafkodcmbabaaDoor.E
