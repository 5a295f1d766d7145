/- Whether a maker's values hold for its system: the plain law. -/
import Derived.Test.YtiikiamdbelbjaaGpn
import Derived.Test.YtiikiamdbelbjaaProg
import Derived.KernelRfl
set_option linter.unusedVariables false
set_option linter.unusedSimpArgs false
set_option maxRecDepth 10000
open Go Go.Proofs.Ytiikiamdbelbjaa.E Go.Proofs
namespace Go.Proofs.Ytiikiamdbelbjaa.E.M
theorem rowsH_iff (V : List Int) : ∀ (L : List Rw) (k : Nat), (rowsH V k L = nil_ ↔ ∀ r ∈ L, rowH V r) ∧ (rowsH V k L = nil_ ∨ ∃ j : Nat, rowsH V k L = spot j 8)
  | [], k => ⟨by simp [rowsH], .inl rfl⟩
  | r :: l, k => by
    have ih := rowsH_iff V l (k + 1)
    simp only [rowsH]
    split
    · rename_i h
      refine ⟨ih.1.trans ⟨fun g s hs => ?_, fun g s hs => g s (List.mem_cons_of_mem _ hs)⟩, ih.2⟩
      rcases List.mem_cons.1 hs with rfl | hs
      · exact h
      · exact g s hs
    · rename_i h
      refine ⟨⟨fun g => by simp at g, fun g => absurd (g r (by simp)) h⟩, .inr ⟨k, rfl⟩⟩
theorem rowsF_all {n : Int} : ∀ {L : List Rw}, (∀ r ∈ L, rowF n r = true) → rowsF n L = true
  | [], _ => rfl
  | r :: l, h => by
    simp only [rowsF]
    rw [if_pos (h r (by simp))]
    exact rowsF_all fun s hs => h s (List.mem_cons_of_mem _ hs)
abbrev sysM (m : Mk) : Rk := ⟨m.v, m.p, m.rows⟩
theorem Good.chk {m : Mk} (h : Good m) (l1 : m.vals.length ≤ 4096) (l2 : m.rows.length ≤ 4096) : chkF (sysM m) = true := by
  have h0 := h.ne
  have hv := h.v
  have p0 := h.p0
  have p1 := h.p1
  unfold chkF
  rw [if_neg (by simp [badF]; omega)]
  refine rowsF_all fun r hr => ?_
  obtain ⟨a, b, c, rfl, ha, hb, hc, _⟩ := h.rows r hr
  simp only [rowF, hv, snd_sum ha, snd_sum hb, snd_sum hc, Bool.and_self]
/-- values that are good, whoever made them -/
theorem holds_iff {m : Mk} (h : Good m) (l1 : m.vals.length ≤ 4096) (l2 : m.rows.length ≤ 4096) {V : List Int} (hl : V.length = m.vals.length) (hh : V.head? = some 1) (hV : ∀ v ∈ V, v < 288230376287764481) :
    (holdsF (sysM m) V = nil_ ↔ ∀ r ∈ m.rows, rowH V r) ∧ (holdsF (sysM m) V = nil_ ∨ ∃ j : Nat, holdsF (sysM m) V = spot j 8) := by
  have hg : greatF V = false := by
    unfold greatF
    rw [List.any_eq_false]
    intro v hv
    have := hV v hv
    simp; omega
  have e : holdsF (sysM m) V = rowsH V 0 m.rows := by
    unfold holdsF
    rw [if_pos (h.chk l1 l2), if_neg (by rw [hg, hl, hh, show (sysM m).v = m.vals.length from h.v]; simp)]
  rw [e]
  exact rowsH_iff V m.rows 0
theorem holds_good {m : Mk} (h : Good m) (l1 : m.vals.length ≤ 4096) (l2 : m.rows.length ≤ 4096) : (holdsF (sysM m) m.vals = nil_ ↔ AllH m) ∧ (holdsF (sysM m) m.vals = nil_ ∨ ∃ j : Nat, holdsF (sysM m) m.vals = spot j 8) :=
  holds_iff h l1 l2 rfl h.one fun v hv => (h.lt v hv).2
theorem Good.rok {m : Mk} (h : Good m) : M.rok m.rows := fun r hr => by
  obtain ⟨a, b, c, rfl, _, _, _, la, lb, lc⟩ := h.rows r hr
  exact ⟨⟨Nat.lt_of_le_of_lt (sumT_len a) la, sumT_w a⟩, ⟨Nat.lt_of_le_of_lt (sumT_len b) lb, sumT_w b⟩, ⟨Nat.lt_of_le_of_lt (sumT_len c) lc, sumT_w c⟩⟩
theorem Good.len {m : Mk} (h : Good m) (l2 : m.rows.length ≤ 4096) : Len (sysM m) := by
  refine ⟨by show m.rows.length < _; omega, fun r hr => ?_⟩
  have := h.rok r hr
  exact ⟨by have := this.1.1; omega, by have := this.2.1.1; omega, by have := this.2.2.1; omega⟩
theorem Good.wR {m : Mk} (h : Good m) : M.wR (sysM m) := fun r hr => by
  have := h.rok r hr
  exact ⟨this.1.2, this.2.1.2, this.2.2.2⟩
theorem Good.wV {m : Mk} (h : Good m) : M.wV m.vals := fun v hv => ⟨(h.lt v hv).1, by have := (h.lt v hv).2; omega⟩
theorem good0 : Good mk0 := ⟨rfl, by decide, by decide, rfl, fun v hv => by simp at hv; subst hv; decide, fun r hr => by cases hr⟩
theorem allh0 : AllH mk0 := fun r hr => by cases hr
end Go.Proofs.Ytiikiamdbelbjaa.E.M

