/- E, a reader of Go's code as the model has it: a contract of a function is proved over values that are told without memory (EG). -/
import Derived.Test.YtjeafkodcmbabaaDoorEF

set_option linter.unusedVariables false
set_option linter.unusedSimpArgs false
open Go
namespace Go.Proofs.YtjeafkodcmbabaaDoor.E
set_option linter.unusedVariables false
set_option linter.unusedSimpArgs false
/-! ## Less told of a result -/
/-- less told of a result -/
theorem Fn.out {P : Program} {f : FuncId} {as : List AV} {hin : List (Nat × Blk)} {R R' : AV → List (Nat × Blk) → Prop} (h : Fn P f as hin R)
    (hR : ∀ r h, R r h → ∃ r' h', R' r' h' ∧ Wk r r' ∧ ∀ p ∈ h', p ∈ h) : Fn P f as hin R' := by
  intro ρ F w vs h1 h2
  refine (h ρ F w vs h1 h2).mono ?_
  rintro e w' ⟨v, ρ', F', r, hh, rfl, hRr, hvr, hhr, hfr⟩
  obtain ⟨r', h', hR', hw, hs⟩ := hR r hh hRr
  exact ⟨v, ρ', F', r', h', rfl, hR', hw _ _ _ _ hvr, hhr.sub hs, hfr⟩
theorem Fn.outv {P : Program} {f : FuncId} {as : List AV} {hin : List (Nat × Blk)} {v v' : AV} (h : Fn P f as hin (fun r _ => r = v)) (hw : Wk v v') : Fn P f as hin (fun r _ => r = v') :=
  Fn.out h fun r h e => ⟨v', h, rfl, by rw [e]; exact hw, fun _ h => h⟩
theorem Wk.tup {cs cs' : List AV} (h : Wks cs cs') : Wk (.tup cs) (.tup cs') := fun ρ F w v hv => by
  simp only [VR] at hv ⊢
  obtain ⟨vs, e, hv⟩ := hv
  exact ⟨vs, e, h _ _ _ _ hv⟩
theorem Wk.dead (c : AV) : Wk c .dead := fun ρ F w v hv => by simp only [VR]
/-- less told of a block's cells -/
theorem Sub.wkH {st : St} {l : Nat} {B : Blk} {cs' : List AV} (hB : get? l st.h = some B) (hw : Wks B.cs cs') (hl : B.cs = [] → cs' = []) : Sub st { st with h := ins l { B with cs := cs' } st.h } := fun ρ F a w hR => by
  refine ⟨ρ, F, ⟨⟨?_, hR.heap.inj, hR.heap.apart, hR.heap.lt, hR.heap.flt, hR.heap.glb⟩, hR.size, hR.defers, hR.tmps⟩, Fr.refl _ _ _⟩
  intro k C hC
  rcases mem_ins hC with e | ⟨hC, _⟩
  · cases e
    rcases hR.heap.blk l B (get?_mem hB) with ⟨h0, h1⟩ | ⟨r, m, c, h1, h2, h3, vs, h4, h5⟩
    · exact .inl ⟨hl h0, h1⟩
    · exact .inr ⟨r, m, c, h1, h2, h3, vs, hw _ _ _ _ h4, h5⟩
  · exact hR.heap.blk k C hC
theorem AW.wkh {P c K st st'} {B : Blk} {cs' : List AV} (l : Nat) (hB : get? l st.h = some B) (hw : Wks B.cs cs') (hl : B.cs = [] → cs' = []) (hs : ({ st with h := ins l { B with cs := cs' } st.h } : St) = st' := by simp only [ins, del, reduceIte, Nat.reduceLT, Nat.reduceEqDiff]; exact rfl) (h : AW P c K st') : AW P c K st := by
  subst hs; exact AW.sub (Sub.wkH hB hw hl) h
/-- a slice that is nothing yet, told as one over a block of one's own without cells -/
theorem Wk.ref0 (L z : Nat) : Wk (.val (.slice none 0 0)) (.ref L 0 0 z) := fun ρ F w v hv => by
  simp only [VR] at hv ⊢
  subst hv
  exact .inr ⟨by trivial, none, rfl⟩
theorem Sub.blank (st : St) (L : Nat) (e : TypeId) : Sub st (st.new L ⟨e, false, []⟩) := fun ρ F a w hR => ⟨_, F, hR.blank L e, Fr.drop _ _ _ _⟩
theorem AW.blank {P c K st st'} (L : Nat) (e : TypeId) (hs : st.new L ⟨e, false, []⟩ = st' := by simp only [St.new, St.drop, mapT, mapH, kill, kills, ins, del, reduceIte, Nat.reduceLT, Nat.reduceEqDiff, Bool.false_eq_true]; exact rfl) (h : AW P c K st') : AW P c K st := by
  subst hs; exact AW.sub (Sub.blank st L e) h
end Go.Proofs.YtjeafkodcmbabaaDoor.E
