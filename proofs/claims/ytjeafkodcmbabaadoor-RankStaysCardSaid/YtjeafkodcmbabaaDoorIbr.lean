/- slices.Values, slices.SortedFunc at terms: contracts over E. -/
import Derived.Test.YtjeafkodcmbabaaDoorEK
import Derived.Test.YtjeafkodcmbabaaDoorSof
import Derived.Test.YtjeafkodcmbabaaDoorProg
import Derived.KernelRfl
set_option linter.unusedVariables false
set_option linter.unusedSimpArgs false
set_option maxRecDepth 10000
open Go Go.Proofs.YtjeafkodcmbabaaDoor.E Go.Proofs
namespace Go.Proofs.YtjeafkodcmbabaaDoor.E.M
open Go.Proofs.YtjeafkodcmbabaaDoor Go.RowKit Go.Shelf
theorem slices_Values_c {n : Nat} {cs : List AV} : Fn Tryd.prog 20 [.sl n cs] [] (fun q _ => q = .clo 37 [.fptr [.sl n cs]]) := by
  refine Fn.ofCallsF fun ρ F w vs hv hF => ?_
  simp only [VRs] at hv
  obtain ⟨v, rest, rfl, hv1, rfl⟩ := hv
  have hv1' := hv1
  simp only [VR] at hv1'
  obtain ⟨base, cap, us, rfl, h1, h2, h3, h4, h5, h6⟩ := hv1'
  refine (callsIn_wide (n := 1)).1 ((tvals_in _ 1 trivial rfl base n cap w).mono ?_)
  rintro e w' ⟨rfl, rfl⟩
  have hb : Below w.heap.size w (w.alloc (.cells #[.slice base n cap] 28)) := (Below.refl _ w).alloc (Nat.le_refl _) _
  refine ⟨_, _, rfl, rfl, hb, ?_⟩
  have hB := Boxed.new w 28 (.slice base n cap)
  have h0 : VR (fun _ => none) F w (.sl n cs) (.slice base n cap) := by simpa only [VR] using hv1
  have hk : VR (fun _ => none) (fun b => F b ∨ (w.heap.size ≤ b ∧ b < (w.alloc (.cells #[.slice base n cap] 28)).heap.size)) (w.alloc (.cells #[.slice base n cap] 28)) (.sl n cs) (.slice base n cap) :=
    VR.keep (fun _ h => .inl h) (fun b off v hb' hc => (hb.cell (p := ⟨b, off, none⟩) (hF b hb')).trans hc) (fun _ _ h => by cases h) _ _ h0
  have hp : VR (fun _ => none) (fun b => F b ∨ (w.heap.size ≤ b ∧ b < (w.alloc (.cells #[.slice base n cap] 28)).heap.size)) (w.alloc (.cells #[.slice base n cap] 28)) (.fptr [.sl n cs]) (.pointer (some ⟨w.heap.size, 0, none⟩)) := by
    rw [VR]
    refine ⟨⟨w.heap.size, 0, none⟩, [.slice base n cap], rfl, rfl, ⟨_, [], rfl, hk, rfl⟩, .inr ⟨_, _, rfl, .inr ⟨Nat.le_refl _, by simp⟩, ?_⟩⟩
    intro i v hv
    match i, hv with
    | 0, hv => simp at hv; subst hv; exact ⟨hB.cell, rfl⟩
  rw [VR]
  exact ⟨[.pointer (some ⟨w.heap.size, 0, none⟩)], rfl, _, [], rfl, hp, rfl⟩

abbrev tmA (x : Int × Int) : List AV := [.val (.int .i64 x.1), .val (.int .u64 x.2)]
theorem flT_cons (x : Int × Int) (xs : List (Int × Int)) : flT (x :: xs) = .int .i64 x.1 :: .int .u64 x.2 :: flT xs := by simp [flT]
theorem flT_of {ρ : Rho} {F : Nat → Prop} {w : World} : ∀ {zs : List (Int × Int)} {vs : List Value}, VRs ρ F w (fm tmA zs) vs → vs = flT zs
  | [], vs, h => by simp only [fm, VRs] at h; subst h; rfl
  | x :: xs, vs, h => by
    simp only [fm, tmA, List.cons_append, List.nil_append, VRs, VR] at h
    obtain ⟨v, r, rfl, rfl, v', r', rfl, rfl, h⟩ := h
    rw [flT_of h, flT_cons]
theorem of_flT {ρ : Rho} {F : Nat → Prop} {w : World} : ∀ (zs : List (Int × Int)), VRs ρ F w (fm tmA zs) (flT zs)
  | [] => by simp [fm, VRs, flT]
  | x :: xs => by
    simp only [fm, tmA, List.cons_append, List.nil_append, VRs, VR, flT_cons]
    exact ⟨_, _, rfl, rfl, _, _, rfl, rfl, of_flT xs⟩
theorem flT_one : ∀ (zs : List (Int × Int)) (v : Value), v ∈ flT zs → v.oneCell' = true := by
  intro zs v hv
  simp only [flT, List.mem_flatMap] at hv
  obtain ⟨x, _, h⟩ := hv
  simp at h
  rcases h with rfl | rfl <;> rfl

theorem slices_SortedFunc_c {zs : List (Int × Int)} (hl : zs.length * 16 ≤ 140737488351232) :
    Fn Tryd.prog 19 [.clo 37 [.fptr [.sl zs.length (fm tmA zs)]], .clo 21 []] []
      (fun q _ => ∃ zs' : List (Int × Int), q = .sl zs'.length (fm tmA zs') ∧ zs'.Perm zs ∧ zs'.Pairwise (fun a b : Int × Int => a.1 ≤ b.1)) := by
  refine Fn.ofCallsF fun ρ F w vs hv hF => ?_
  simp only [VRs, VR] at hv
  obtain ⟨_, _, rfl, ⟨vs1, rfl, p, r1, rfl, ⟨a, us, rfl, hsp, ⟨sv, _, rfl, ⟨base, cap, ts, rfl, hn, hcm, hts, hfz, hb0, hb1⟩, rfl⟩, hfa⟩, rfl⟩, _, _, rfl, ⟨_, rfl, rfl⟩, rfl⟩ := hv
  have hts' := flT_of hts
  subst hts'
  rcases hfa with h | ⟨b, off, hab, hFb, hcb⟩
  · cases h
  · obtain rfl : a = ⟨b, off, none⟩ := by simpa using hab
    have hc := (hcb 0 _ rfl).1
    have hI : Terms w.heap.size w (.slice base zs.length cap) zs := by
      rcases Nat.eq_zero_or_pos zs.length with h0 | h0
      · left
        exact ⟨base, cap, by rw [h0], List.eq_nil_of_length_eq_zero h0⟩
      · rcases hfz with h | ⟨b', off', rfl, hFb', hcb'⟩
        · have := congrArg List.length h
          rw [flT_len] at this; simp at this; omega
        · right
          refine ⟨b', off', cap, rfl, hF b' hFb', fun j hj => ?_⟩
          have e1 := (hcb' (j * 2) _ (flT_get zs (j * 2) (by omega))).1
          have e2 := (hcb' (j * 2 + 1) _ (flT_get zs (j * 2 + 1) (by omega))).1
          have d1 : (j * 2) / 2 = j := by omega
          have d2 : (j * 2) % 2 = 0 := by omega
          have d3 : (j * 2 + 1) / 2 = j := by omega
          have d4 : (j * 2 + 1) % 2 = 1 := by omega
          rw [d1, d2] at e1
          rw [d3, d4] at e2
          refine ⟨?_, ?_⟩
          · rw [e1]; simp [encT, hj]
          · rw [Nat.add_assoc, e2]; simp [encT, hj]
    refine (tsof_c b off w.heap.size _ zs hl w (hF b hFb) (Nat.le_refl _) hc hI).mono ?_
    rintro e w' ⟨v, zs', rfl, hp, hs, hbel, hv⟩
    refine ⟨v, _, rfl, ⟨zs', rfl, hp, hs⟩, hbel, ?_⟩
    rw [VR]
    rcases hv with ⟨rfl, rfl⟩ | ⟨g, cap', rfl, h1, h2, h3, h4, h5⟩
    · exact ⟨none, 0, [], rfl, Nat.le_refl _, by simp [maxLen], by simp [fm, VRs], .inl rfl, fun _ => rfl, fun _ h => by cases h⟩
    · exact ⟨_, cap', flT zs', rfl, h1, h2, of_flT zs', .inr ⟨g, 0, rfl, .inr ⟨h3, h4⟩, fun i v hv => ⟨by rw [Nat.zero_add]; exact h5 i v hv, flT_one _ _ (List.mem_of_getElem? hv)⟩⟩, (fun h => by cases h), fun a ha _ => by cases ha; rfl⟩
end Go.Proofs.YtjeafkodcmbabaaDoor.E.M

